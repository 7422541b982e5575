/- Bytes of a content are read. Conditions: a content that may be. -/
import Derived.Test.YtiamkbmefllljaaExt1
set_option linter.unusedSimpArgs false
set_option linter.unusedVariables false
namespace Go.Proofs.Ytiamkbmefllljaa.E
open Go.RowKit Go.Proofs.Ytiamkbmefllljaa.M Go.Proofs.Ytiamkbmefllljaa.A Go.Proofs.Ytiamkbmefllljaa.L

/-- Byte i of a content. -/
def byte (D : Nat → UInt8) (L : List Nat) (i : Nat) : UInt8 := D (L.getD (i / 64) 0 * 64 + i % 64)

theorem byte_near {D : Nat → UInt8} {L : List Nat} {a t id : Nat} (h : t < 64 - a % 64) (hid : L.getD (a / 64) 0 = id) : byte D L (a + t) = D (id * 64 + a % 64 + t) := by
  unfold byte
  have h1 : (a + t) / 64 = a / 64 := by omega
  have h2 : (a + t) % 64 = a % 64 + t := by omega
  rw [h1, h2, hid, Nat.add_assoc]

theorem skip_ {w0 : Base} {w : World} {fr l : List Blk} {b c : Blk} (h : Mem w0 w fr (b :: c :: l)) : Mem w0 w fr (b :: l) := (h.perm (List.Perm.swap c b l)).tail

theorem _root_.Go.Proofs.Ytiamkbmefllljaa.M.Bytes.srcN {P : Program} {w : World} {x : Value} {bs : List UInt8} {n : Nat} {tx e' : TypeId} (h : Bytes w x bs) (hn : bs.length = n) (hk : P.underlying tx = some (.slice e')) : Src P 1 tx x n (bs.map M.u8) w := by
  subst hn
  exact h.src hk

theorem grown {D : Nat → UInt8} {L : List Nat} {cs cs2 : Array Value} {at_ d kk id : Nat} {z : Array Value} {N : Nat} (hk : kk ≤ 64 - (at_ + d) % 64) (h1 : ∀ j, j < d → cs[j]? = some (M.u8 (byte D L (at_ + j))))
    (hon : Onto cs cs2 ((seg D (id * 64 + (at_ + d) % 64) kk).map M.u8) z (d * 1) N) (hid : L.getD ((at_ + d) / 64) 0 = id) (h0 : 0 < 1) : ∀ j, j < d + kk → cs2[j]? = some (M.u8 (byte D L (at_ + j))) := by
  intro j hj
  by_cases hjd : j < d
  · rw [hon.old j (by omega)]
    exact h1 j hjd
  · obtain ⟨t, rfl⟩ : ∃ t, j = d + t := ⟨j - d, by omega⟩
    have h := hon.new t (by rw [List.length_map, seg_len]; omega)
    rw [Nat.mul_one, List.getElem?_map, seg_get (by omega)] at h
    rw [h, ← Nat.add_assoc, byte_near (by omega) hid]
    rfl

section
variable {w0 : Base} {w : World} {p : Ptr} {s : St} {l : List Blk}

set_option maxHeartbeats 2000000 in
theorem eread (hM : Mem w0 w (arena p s) l) (ok : Okay p s) (x : Value) (L : List Nat) (n at_ k : Nat) (hI : ∀ w', Mem w0 w' (arena p s) l → Ints w' x L) (hL : Hid (L.length = nd n)) (hn : n ≤ 1048576)
    (hv : ∀ id ∈ L, id < p.n ∧ 0 < s.H id) (hat : at_ + k ≤ n) :
    Calls Try.prog 28 #[own p, .agg #[x, .int .i64 n], .int .i64 at_, .int .i64 k] w fun e w' => ∃ g c cs, e = .returned (.tuple #[.slice (some ⟨g, 0, none⟩) k c, .int .i64 0]) ∧ Mem w0 w' (arena p s) (⟨g, cs, 5, (0, 0)⟩ :: l) ∧
      cs.size = c ∧ k ≤ c ∧ ∀ j, j < k → cs[j]? = some (u8 (byte s.D L (at_ + j))) := by
  obtain ⟨xb, xc, rfl⟩ := (hI w hM).len
  have d0 : decide ((at_ : Int) < 0) = false := decide_eq_false (by omega)
  have d1 : decide ((at_ : Int) > n) = false := decide_eq_false (by omega)
  have d1n : decide (n < at_) = false := decide_eq_false (by omega)
  have d2 : decide ((k : Int) < 0) = false := decide_eq_false (by omega)
  have d3 : decide ((k : Int) > n - at_) = false := decide_eq_false (by omega)
  go_enter Try.func28, Try.ntmps28
  go_wp2_with (first
    | ((with_reducible refine wpl ?_); apply al_box (hM := hM); rfl; (first | exact want_none rfl | exact want_some rfl rfl rfl rfl); (first | (focus (go_simp; done)) | (focus (go_simp; rfl))); intro gb w1 hM1; clear hM; dsimp only [Value.cells] at hM1; have hM := hM1; clear hM1; simp only [Act.put, List.setIfInBounds_toArray, List.set_cons_zero, List.set_cons_succ])
    | ((with_reducible refine wpl ?_); apply ld_row (hM := hM); rfl; (first | exact want_none rfl | exact want_some rfl rfl rfl rfl); rfl; (first | exact .head _ _ | exact .tail (.head _ _) | exact .tail (.tail (.head _ _)) | exact .tail (.tail (.tail (.head _ _))) | exact .tail (.tail (.tail (.tail (.head _ _))))); (first | exact row41); simp only [Act.put, List.setIfInBounds_toArray, List.set_cons_zero, List.set_cons_succ])
    | ((with_reducible refine wpl ?_); apply st_row (hM := hM); rfl; (first | exact want_none rfl | exact want_some rfl rfl rfl rfl); rfl; (first | (focus (go_simp; done)) | (focus (go_simp; rfl))); (first | exact .head _ _ | exact .tail (.head _ _) | exact .tail (.tail (.head _ _)) | exact .tail (.tail (.tail (.head _ _))) | exact .tail (.tail (.tail (.tail (.head _ _))))); rfl; rfl; (first | exact row41); intro w1 hM1; clear hM; (try simp only [List.setIfInBounds_toArray, List.set_cons_zero, List.set_cons_succ] at hM1); (try rw [tab_setInt] at hM1);  have hM := hM1; clear hM1; simp only [Act.put, List.setIfInBounds_toArray, List.set_cons_zero, List.set_cons_succ])
    | ((with_reducible refine wpl ?_); apply ld_one (hM := hM); rfl; (first | exact want_none rfl | exact want_some rfl rfl rfl rfl); rfl; (first | exact .head _ _ | exact .tail (.head _ _) | exact .tail (.tail (.head _ _)) | exact .tail (.tail (.tail (.head _ _))) | exact .tail (.tail (.tail (.tail (.head _ _))))); (first | (focus (simp only [List.getElem?_toArray, List.getElem?_cons_zero, List.getElem?_cons_succ]; rfl)) | exact tab_get (by omega) | rfl); (first | exact one3 | exact one39); simp only [Act.put, List.setIfInBounds_toArray, List.set_cons_zero, List.set_cons_succ])
    | ((with_reducible refine wpl ?_); apply st_cell (hM := hM); rfl; (first | exact want_none rfl | exact want_some rfl rfl rfl rfl); rfl; (first | (focus (go_simp; done)) | (focus (go_simp; rfl))); (first | exact .head _ _ | exact .tail (.head _ _) | exact .tail (.tail (.head _ _)) | exact .tail (.tail (.tail (.head _ _))) | exact .tail (.tail (.tail (.tail (.head _ _))))); (first | (focus (simp; done)) | (focus (rw [tab_size]; omega))); rfl; (first | exact one3 | exact one39); intro w1 hM1; clear hM; (try simp only [List.setIfInBounds_toArray, List.set_cons_zero, List.set_cons_succ] at hM1); (try rw [tab_setInt] at hM1);  have hM := hM1; clear hM1; simp only [Act.put, List.setIfInBounds_toArray, List.set_cons_zero, List.set_cons_succ])
    | (go_at_call 31; (with_reducible refine (right_ hM _ L.length _ n hn hL.out).mono ?_); rintro e w3 ⟨rfl, hM1⟩; clear hM; have hM := hM1; clear hM1)
    | ((with_reducible refine wpl ?_); apply al_none (hM := hM) (ht := sl22); rfl; (first | exact want_none rfl | exact want_some rfl rfl rfl rfl); intro go w1 hM1; clear hM; have hM := hM1; clear hM1; simp only [Act.put, List.setIfInBounds_toArray, List.set_cons_zero, List.set_cons_succ]))
  go_loopw [2, 3, 10] (fun xa xk xo wr => ∃ (d g c : Nat) (cs : Array Value), d ≤ k ∧ xa = .int .i64 ((at_ : Int) + d) ∧ xk = .int .i64 ((k : Int) - d) ∧ xo = .slice (some ⟨g, 0, none⟩) d c ∧ cs.size = c ∧ d ≤ c ∧ Hid (∀ j, j < d → cs[j]? = some (u8 (byte s.D L (at_ + j)))) ∧ Mem w0 wr (arena p s) (⟨g, cs, 5, (0, 0)⟩ :: ⟨gb, #[.slice xb L.length xc, .int .i64 n], 41, (0, 0)⟩ :: l)) (fun _ xk _ _ => (intOf xk).toNat)
  case atStart => exact ⟨0, go, 0, #[], Nat.zero_le _, by go_num, by go_num, rfl, rfl, Nat.le_refl _, (fun j hj => absurd hj (Nat.not_lt_zero j)), hM⟩
  case round =>
    obtain ⟨d, g, c, cs, hd, rfl, rfl, rfl, hsz, hdc, hcs, hMr⟩ := hrel
    clear hM
    have hM := hMr
    clear hMr
    by_cases hlt : d < k
    · have e0 : decide ((k : Int) - d > 0) = true := decide_eq_true (by omega)
      have hi : (at_ + d) / 64 < L.length := by have := hL.out; unfold nd at this; omega
      obtain ⟨a, rfl, hc⟩ := (hI wr hM.tail.tail).cell hi
      have hid := hv L[(at_ + d) / 64] (List.getElem_mem hi)
      have hgd : L.getD ((at_ + d) / 64) 0 = L[(at_ + d) / 64] := by rw [List.getD_eq_getElem?_getD, List.getElem?_eq_getElem hi]; rfl
      have hi2 : ((at_ : Int) + d) / 64 < L.length := by omega
      have hi3 : 0 ≤ ((at_ : Int) + d) / 64 := by omega
      have ht : (((at_ : Int) + d) / 64).toNat = (at_ + d) / 64 := by omega
      generalize L[(at_ + d) / 64] = id at hc hid hgd
      unfold i64 at hc
      go_wp2_with (first | ((with_reducible refine wpl ?_); apply al_box (hM := hM); rfl; (first | exact want_none rfl | exact want_some rfl rfl rfl rfl); (first | (focus (go_simp; done)) | (focus (go_simp; rfl))); intro gb w1 hM1; clear hM; dsimp only [Value.cells] at hM1; have hM := hM1; clear hM1; simp only [Act.put, List.setIfInBounds_toArray, List.set_cons_zero, List.set_cons_succ]) | ((with_reducible refine wpl ?_); apply ld_row (hM := hM); rfl; (first | exact want_none rfl | exact want_some rfl rfl rfl rfl); rfl; (first | exact .head _ _ | exact .tail (.head _ _) | exact .tail (.tail (.head _ _)) | exact .tail (.tail (.tail (.head _ _))) | exact .tail (.tail (.tail (.tail (.head _ _))))); (first | exact row41); simp only [Act.put, List.setIfInBounds_toArray, List.set_cons_zero, List.set_cons_succ]) | ((with_reducible refine wpl ?_); apply st_row (hM := hM); rfl; (first | exact want_none rfl | exact want_some rfl rfl rfl rfl); rfl; (first | (focus (go_simp; done)) | (focus (go_simp; rfl))); (first | exact .head _ _ | exact .tail (.head _ _) | exact .tail (.tail (.head _ _)) | exact .tail (.tail (.tail (.head _ _))) | exact .tail (.tail (.tail (.tail (.head _ _))))); rfl; rfl; (first | exact row41); intro w1 hM1; clear hM; (try simp only [List.setIfInBounds_toArray, List.set_cons_zero, List.set_cons_succ] at hM1); (try rw [tab_setInt] at hM1);  have hM := hM1; clear hM1; simp only [Act.put, List.setIfInBounds_toArray, List.set_cons_zero, List.set_cons_succ]) | ((with_reducible refine wpl ?_); apply ld_one (hM := hM); rfl; (first | exact want_none rfl | exact want_some rfl rfl rfl rfl); rfl; (first | exact .head _ _ | exact .tail (.head _ _) | exact .tail (.tail (.head _ _)) | exact .tail (.tail (.tail (.head _ _))) | exact .tail (.tail (.tail (.tail (.head _ _))))); (first | (focus (simp only [List.getElem?_toArray, List.getElem?_cons_zero, List.getElem?_cons_succ]; rfl)) | exact tab_get (by omega) | rfl); (first | exact one3 | exact one39); simp only [Act.put, List.setIfInBounds_toArray, List.set_cons_zero, List.set_cons_succ]) | ((with_reducible refine wpl ?_); apply st_cell (hM := hM); rfl; (first | exact want_none rfl | exact want_some rfl rfl rfl rfl); rfl; (first | (focus (go_simp; done)) | (focus (go_simp; rfl))); (first | exact .head _ _ | exact .tail (.head _ _) | exact .tail (.tail (.head _ _)) | exact .tail (.tail (.tail (.head _ _))) | exact .tail (.tail (.tail (.tail (.head _ _))))); (first | (focus (simp; done)) | (focus (rw [tab_size]; omega))); rfl; (first | exact one3 | exact one39); intro w1 hM1; clear hM; (try simp only [List.setIfInBounds_toArray, List.set_cons_zero, List.set_cons_succ] at hM1); (try rw [tab_setInt] at hM1);  have hM := hM1; clear hM1; simp only [Act.put, List.setIfInBounds_toArray, List.set_cons_zero, List.set_cons_succ]))
      case inl =>
        refine (read hM ok id hid.1 hid.2 ((at_ + d) % 64) (64 - (at_ + d) % 64) (by omega) (by omega) (by omega) (by omega)).mono ?_
        rintro e w4 ⟨gr, cr, csr, rfl, hM1, hsr, hcr, hgr⟩
        clear hM
        have hM := hM1
        clear hM1
        go_wp2_with (first | ((with_reducible refine wpl ?_); apply al_box (hM := hM); rfl; (first | exact want_none rfl | exact want_some rfl rfl rfl rfl); (first | (focus (go_simp; done)) | (focus (go_simp; rfl))); intro gb w1 hM1; clear hM; dsimp only [Value.cells] at hM1; have hM := hM1; clear hM1; simp only [Act.put, List.setIfInBounds_toArray, List.set_cons_zero, List.set_cons_succ]) | ((with_reducible refine wpl ?_); apply ld_row (hM := hM); rfl; (first | exact want_none rfl | exact want_some rfl rfl rfl rfl); rfl; (first | exact .head _ _ | exact .tail (.head _ _) | exact .tail (.tail (.head _ _)) | exact .tail (.tail (.tail (.head _ _))) | exact .tail (.tail (.tail (.tail (.head _ _))))); (first | exact row41); simp only [Act.put, List.setIfInBounds_toArray, List.set_cons_zero, List.set_cons_succ]) | ((with_reducible refine wpl ?_); apply st_row (hM := hM); rfl; (first | exact want_none rfl | exact want_some rfl rfl rfl rfl); rfl; (first | (focus (go_simp; done)) | (focus (go_simp; rfl))); (first | exact .head _ _ | exact .tail (.head _ _) | exact .tail (.tail (.head _ _)) | exact .tail (.tail (.tail (.head _ _))) | exact .tail (.tail (.tail (.tail (.head _ _))))); rfl; rfl; (first | exact row41); intro w1 hM1; clear hM; (try simp only [List.setIfInBounds_toArray, List.set_cons_zero, List.set_cons_succ] at hM1); (try rw [tab_setInt] at hM1);  have hM := hM1; clear hM1; simp only [Act.put, List.setIfInBounds_toArray, List.set_cons_zero, List.set_cons_succ]) | ((with_reducible refine wpl ?_); apply ld_one (hM := hM); rfl; (first | exact want_none rfl | exact want_some rfl rfl rfl rfl); rfl; (first | exact .head _ _ | exact .tail (.head _ _) | exact .tail (.tail (.head _ _)) | exact .tail (.tail (.tail (.head _ _))) | exact .tail (.tail (.tail (.tail (.head _ _))))); (first | (focus (simp only [List.getElem?_toArray, List.getElem?_cons_zero, List.getElem?_cons_succ]; rfl)) | exact tab_get (by omega) | rfl); (first | exact one3 | exact one39); simp only [Act.put, List.setIfInBounds_toArray, List.set_cons_zero, List.set_cons_succ]) | ((with_reducible refine wpl ?_); apply st_cell (hM := hM); rfl; (first | exact want_none rfl | exact want_some rfl rfl rfl rfl); rfl; (first | (focus (go_simp; done)) | (focus (go_simp; rfl))); (first | exact .head _ _ | exact .tail (.head _ _) | exact .tail (.tail (.head _ _)) | exact .tail (.tail (.tail (.head _ _))) | exact .tail (.tail (.tail (.tail (.head _ _))))); (first | (focus (simp; done)) | (focus (rw [tab_size]; omega))); rfl; (first | exact one3 | exact one39); intro w1 hM1; clear hM; (try simp only [List.setIfInBounds_toArray, List.set_cons_zero, List.set_cons_succ] at hM1); (try rw [tab_setInt] at hM1);  have hM := hM1; clear hM1; simp only [Act.put, List.setIfInBounds_toArray, List.set_cons_zero, List.set_cons_succ]) | ((with_reducible refine wpl ?_); apply ap_own (hM := hM) (ht := sl22) (n := (64 - (at_ + d) % 64)) (news := (seg s.D (id * 64 + (at_ + d) % 64) ((64 - (at_ + d) % 64))).map M.u8) (k := d) (cap := c) (g := g); rfl; (first | exact want_none rfl | exact want_some rfl rfl rfl rfl); rfl; rfl; (first | exact .head _ _ | exact .tail (.head _ _) | exact .tail (.tail (.head _ _)) | exact .tail (.tail (.tail (.head _ _))) | exact .tail (.tail (.tail (.tail (.head _ _))))); (rw [hsz, Nat.mul_one]); exact hdc; exact (read_bytes hM (.head _ _) hcr hgr).srcN (seg_len _ _ _) und22; omega; omega; intro g2 cap2 cs2 w1 hM1 hon hcap hsame; clear hM hsame; have hM := hM1; clear hM1; simp only [Act.put, List.setIfInBounds_toArray, List.set_cons_zero, List.set_cons_succ]))
        go_roundw
        case rel => exact ⟨d + (64 - (at_ + d) % 64), g2, cap2, cs2, by omega, by go_num, by go_num, rfl, by rw [hon.size, Nat.mul_one], hcap, grown (by omega) hcs.out hon hgd (by omega), skip_ hM⟩
        case measure => simp [intOf]; omega
      case inr =>
        refine (read hM ok id hid.1 hid.2 ((at_ + d) % 64) (k - d) (by omega) (by omega) (by omega) (by omega)).mono ?_
        rintro e w4 ⟨gr, cr, csr, rfl, hM1, hsr, hcr, hgr⟩
        clear hM
        have hM := hM1
        clear hM1
        go_wp2_with (first | ((with_reducible refine wpl ?_); apply al_box (hM := hM); rfl; (first | exact want_none rfl | exact want_some rfl rfl rfl rfl); (first | (focus (go_simp; done)) | (focus (go_simp; rfl))); intro gb w1 hM1; clear hM; dsimp only [Value.cells] at hM1; have hM := hM1; clear hM1; simp only [Act.put, List.setIfInBounds_toArray, List.set_cons_zero, List.set_cons_succ]) | ((with_reducible refine wpl ?_); apply ld_row (hM := hM); rfl; (first | exact want_none rfl | exact want_some rfl rfl rfl rfl); rfl; (first | exact .head _ _ | exact .tail (.head _ _) | exact .tail (.tail (.head _ _)) | exact .tail (.tail (.tail (.head _ _))) | exact .tail (.tail (.tail (.tail (.head _ _))))); (first | exact row41); simp only [Act.put, List.setIfInBounds_toArray, List.set_cons_zero, List.set_cons_succ]) | ((with_reducible refine wpl ?_); apply st_row (hM := hM); rfl; (first | exact want_none rfl | exact want_some rfl rfl rfl rfl); rfl; (first | (focus (go_simp; done)) | (focus (go_simp; rfl))); (first | exact .head _ _ | exact .tail (.head _ _) | exact .tail (.tail (.head _ _)) | exact .tail (.tail (.tail (.head _ _))) | exact .tail (.tail (.tail (.tail (.head _ _))))); rfl; rfl; (first | exact row41); intro w1 hM1; clear hM; (try simp only [List.setIfInBounds_toArray, List.set_cons_zero, List.set_cons_succ] at hM1); (try rw [tab_setInt] at hM1);  have hM := hM1; clear hM1; simp only [Act.put, List.setIfInBounds_toArray, List.set_cons_zero, List.set_cons_succ]) | ((with_reducible refine wpl ?_); apply ld_one (hM := hM); rfl; (first | exact want_none rfl | exact want_some rfl rfl rfl rfl); rfl; (first | exact .head _ _ | exact .tail (.head _ _) | exact .tail (.tail (.head _ _)) | exact .tail (.tail (.tail (.head _ _))) | exact .tail (.tail (.tail (.tail (.head _ _))))); (first | (focus (simp only [List.getElem?_toArray, List.getElem?_cons_zero, List.getElem?_cons_succ]; rfl)) | exact tab_get (by omega) | rfl); (first | exact one3 | exact one39); simp only [Act.put, List.setIfInBounds_toArray, List.set_cons_zero, List.set_cons_succ]) | ((with_reducible refine wpl ?_); apply st_cell (hM := hM); rfl; (first | exact want_none rfl | exact want_some rfl rfl rfl rfl); rfl; (first | (focus (go_simp; done)) | (focus (go_simp; rfl))); (first | exact .head _ _ | exact .tail (.head _ _) | exact .tail (.tail (.head _ _)) | exact .tail (.tail (.tail (.head _ _))) | exact .tail (.tail (.tail (.tail (.head _ _))))); (first | (focus (simp; done)) | (focus (rw [tab_size]; omega))); rfl; (first | exact one3 | exact one39); intro w1 hM1; clear hM; (try simp only [List.setIfInBounds_toArray, List.set_cons_zero, List.set_cons_succ] at hM1); (try rw [tab_setInt] at hM1);  have hM := hM1; clear hM1; simp only [Act.put, List.setIfInBounds_toArray, List.set_cons_zero, List.set_cons_succ]) | ((with_reducible refine wpl ?_); apply ap_own (hM := hM) (ht := sl22) (n := (k - d)) (news := (seg s.D (id * 64 + (at_ + d) % 64) ((k - d))).map M.u8) (k := d) (cap := c) (g := g); rfl; (first | exact want_none rfl | exact want_some rfl rfl rfl rfl); rfl; rfl; (first | exact .head _ _ | exact .tail (.head _ _) | exact .tail (.tail (.head _ _)) | exact .tail (.tail (.tail (.head _ _))) | exact .tail (.tail (.tail (.tail (.head _ _))))); (rw [hsz, Nat.mul_one]); exact hdc; exact (read_bytes hM (.head _ _) hcr hgr).srcN (seg_len _ _ _) und22; omega; omega; intro g2 cap2 cs2 w1 hM1 hon hcap hsame; clear hM hsame; have hM := hM1; clear hM1; simp only [Act.put, List.setIfInBounds_toArray, List.set_cons_zero, List.set_cons_succ]))
        go_roundw
        case rel => exact ⟨d + (k - d), g2, cap2, cs2, by omega, by go_num, by go_num, rfl, by rw [hon.size, Nat.mul_one], hcap, grown (by omega) hcs.out hon hgd (by omega), skip_ hM⟩
        case measure => simp [intOf]; omega
    · obtain rfl : d = k := by omega
      have e0 : decide ((d : Int) - d > 0) = false := decide_eq_false (by omega)
      go_wp2
      go_ret2
      exact ⟨g, c, cs, rfl, skip_ hM, hsz, hdc, hcs.out⟩
set_option maxHeartbeats 2000000 in
theorem eread_bad_a (hM : Mem w0 w (arena p s) l) (b : Option Addr) (m c n : Nat) (hL : Hid (m = nd n)) (hn : n ≤ 1048576) (q k : Int) (c1 : q < 0) :
    Calls Try.prog 28 #[own p, .agg #[.slice b m c, .int .i64 n], .int .i64 q, .int .i64 k] w fun e w' => e = .returned (.tuple #[.slice none 0 0, .int .i64 1]) ∧ Mem w0 w' (arena p s) l := by
  have d0 : decide (q < 0) = true := decide_eq_true (by omega)
  go_enter Try.func28, Try.ntmps28
  go_wp2_with (first
    | ((with_reducible refine wpl ?_); apply al_box (hM := hM); rfl; (first | exact want_none rfl | exact want_some rfl rfl rfl rfl); (first | (focus (go_simp; done)) | (focus (go_simp; rfl))); intro gb w1 hM1; clear hM; dsimp only [Value.cells] at hM1; have hM := hM1; clear hM1; simp only [Act.put, List.setIfInBounds_toArray, List.set_cons_zero, List.set_cons_succ])
    | ((with_reducible refine wpl ?_); apply ld_row (hM := hM); rfl; (first | exact want_none rfl | exact want_some rfl rfl rfl rfl); rfl; (first | exact .head _ _ | exact .tail (.head _ _) | exact .tail (.tail (.head _ _)) | exact .tail (.tail (.tail (.head _ _))) | exact .tail (.tail (.tail (.tail (.head _ _))))); (first | exact row41); simp only [Act.put, List.setIfInBounds_toArray, List.set_cons_zero, List.set_cons_succ])
    | ((with_reducible refine wpl ?_); apply st_row (hM := hM); rfl; (first | exact want_none rfl | exact want_some rfl rfl rfl rfl); rfl; (first | (focus (go_simp; done)) | (focus (go_simp; rfl))); (first | exact .head _ _ | exact .tail (.head _ _) | exact .tail (.tail (.head _ _)) | exact .tail (.tail (.tail (.head _ _))) | exact .tail (.tail (.tail (.tail (.head _ _))))); rfl; rfl; (first | exact row41); intro w1 hM1; clear hM; (try simp only [List.setIfInBounds_toArray, List.set_cons_zero, List.set_cons_succ] at hM1); (try rw [tab_setInt] at hM1);  have hM := hM1; clear hM1; simp only [Act.put, List.setIfInBounds_toArray, List.set_cons_zero, List.set_cons_succ])
    | ((with_reducible refine wpl ?_); apply ld_one (hM := hM); rfl; (first | exact want_none rfl | exact want_some rfl rfl rfl rfl); rfl; (first | exact .head _ _ | exact .tail (.head _ _) | exact .tail (.tail (.head _ _)) | exact .tail (.tail (.tail (.head _ _))) | exact .tail (.tail (.tail (.tail (.head _ _))))); (first | (focus (simp only [List.getElem?_toArray, List.getElem?_cons_zero, List.getElem?_cons_succ]; rfl)) | exact tab_get (by omega) | rfl); (first | exact one3 | exact one39); simp only [Act.put, List.setIfInBounds_toArray, List.set_cons_zero, List.set_cons_succ])
    | ((with_reducible refine wpl ?_); apply st_cell (hM := hM); rfl; (first | exact want_none rfl | exact want_some rfl rfl rfl rfl); rfl; (first | (focus (go_simp; done)) | (focus (go_simp; rfl))); (first | exact .head _ _ | exact .tail (.head _ _) | exact .tail (.tail (.head _ _)) | exact .tail (.tail (.tail (.head _ _))) | exact .tail (.tail (.tail (.tail (.head _ _))))); (first | (focus (simp; done)) | (focus (rw [tab_size]; omega))); rfl; (first | exact one3 | exact one39); intro w1 hM1; clear hM; (try simp only [List.setIfInBounds_toArray, List.set_cons_zero, List.set_cons_succ] at hM1); (try rw [tab_setInt] at hM1);  have hM := hM1; clear hM1; simp only [Act.put, List.setIfInBounds_toArray, List.set_cons_zero, List.set_cons_succ])
    | (go_at_call 31; (with_reducible refine (right_ hM _ m _ n hn hL.out).mono ?_); rintro e w3 ⟨rfl, hM1⟩; clear hM; have hM := hM1; clear hM1))
  go_ret2
  exact ⟨rfl, hM.tail⟩

set_option maxHeartbeats 2000000 in
theorem eread_bad_b (hM : Mem w0 w (arena p s) l) (b : Option Addr) (m c n : Nat) (hL : Hid (m = nd n)) (hn : n ≤ 1048576) (q k : Int) (c1 : 0 ≤ q) (c2 : (n : Int) < q) :
    Calls Try.prog 28 #[own p, .agg #[.slice b m c, .int .i64 n], .int .i64 q, .int .i64 k] w fun e w' => e = .returned (.tuple #[.slice none 0 0, .int .i64 1]) ∧ Mem w0 w' (arena p s) l := by
  have d0 : decide (q < 0) = false := decide_eq_false (by omega)
  have d1 : decide (q > n) = true := decide_eq_true (by omega)
  go_enter Try.func28, Try.ntmps28
  go_wp2_with (first
    | ((with_reducible refine wpl ?_); apply al_box (hM := hM); rfl; (first | exact want_none rfl | exact want_some rfl rfl rfl rfl); (first | (focus (go_simp; done)) | (focus (go_simp; rfl))); intro gb w1 hM1; clear hM; dsimp only [Value.cells] at hM1; have hM := hM1; clear hM1; simp only [Act.put, List.setIfInBounds_toArray, List.set_cons_zero, List.set_cons_succ])
    | ((with_reducible refine wpl ?_); apply ld_row (hM := hM); rfl; (first | exact want_none rfl | exact want_some rfl rfl rfl rfl); rfl; (first | exact .head _ _ | exact .tail (.head _ _) | exact .tail (.tail (.head _ _)) | exact .tail (.tail (.tail (.head _ _))) | exact .tail (.tail (.tail (.tail (.head _ _))))); (first | exact row41); simp only [Act.put, List.setIfInBounds_toArray, List.set_cons_zero, List.set_cons_succ])
    | ((with_reducible refine wpl ?_); apply st_row (hM := hM); rfl; (first | exact want_none rfl | exact want_some rfl rfl rfl rfl); rfl; (first | (focus (go_simp; done)) | (focus (go_simp; rfl))); (first | exact .head _ _ | exact .tail (.head _ _) | exact .tail (.tail (.head _ _)) | exact .tail (.tail (.tail (.head _ _))) | exact .tail (.tail (.tail (.tail (.head _ _))))); rfl; rfl; (first | exact row41); intro w1 hM1; clear hM; (try simp only [List.setIfInBounds_toArray, List.set_cons_zero, List.set_cons_succ] at hM1); (try rw [tab_setInt] at hM1);  have hM := hM1; clear hM1; simp only [Act.put, List.setIfInBounds_toArray, List.set_cons_zero, List.set_cons_succ])
    | ((with_reducible refine wpl ?_); apply ld_one (hM := hM); rfl; (first | exact want_none rfl | exact want_some rfl rfl rfl rfl); rfl; (first | exact .head _ _ | exact .tail (.head _ _) | exact .tail (.tail (.head _ _)) | exact .tail (.tail (.tail (.head _ _))) | exact .tail (.tail (.tail (.tail (.head _ _))))); (first | (focus (simp only [List.getElem?_toArray, List.getElem?_cons_zero, List.getElem?_cons_succ]; rfl)) | exact tab_get (by omega) | rfl); (first | exact one3 | exact one39); simp only [Act.put, List.setIfInBounds_toArray, List.set_cons_zero, List.set_cons_succ])
    | ((with_reducible refine wpl ?_); apply st_cell (hM := hM); rfl; (first | exact want_none rfl | exact want_some rfl rfl rfl rfl); rfl; (first | (focus (go_simp; done)) | (focus (go_simp; rfl))); (first | exact .head _ _ | exact .tail (.head _ _) | exact .tail (.tail (.head _ _)) | exact .tail (.tail (.tail (.head _ _))) | exact .tail (.tail (.tail (.tail (.head _ _))))); (first | (focus (simp; done)) | (focus (rw [tab_size]; omega))); rfl; (first | exact one3 | exact one39); intro w1 hM1; clear hM; (try simp only [List.setIfInBounds_toArray, List.set_cons_zero, List.set_cons_succ] at hM1); (try rw [tab_setInt] at hM1);  have hM := hM1; clear hM1; simp only [Act.put, List.setIfInBounds_toArray, List.set_cons_zero, List.set_cons_succ])
    | (go_at_call 31; (with_reducible refine (right_ hM _ m _ n hn hL.out).mono ?_); rintro e w3 ⟨rfl, hM1⟩; clear hM; have hM := hM1; clear hM1))
  go_ret2
  exact ⟨rfl, hM.tail⟩

set_option maxHeartbeats 2000000 in
theorem eread_bad_c (hM : Mem w0 w (arena p s) l) (b : Option Addr) (m c n : Nat) (hL : Hid (m = nd n)) (hn : n ≤ 1048576) (q k : Int) (c1 : 0 ≤ q) (c2 : q ≤ n) (c3 : k < 0) :
    Calls Try.prog 28 #[own p, .agg #[.slice b m c, .int .i64 n], .int .i64 q, .int .i64 k] w fun e w' => e = .returned (.tuple #[.slice none 0 0, .int .i64 1]) ∧ Mem w0 w' (arena p s) l := by
  have d0 : decide (q < 0) = false := decide_eq_false (by omega)
  have d1 : decide (q > n) = false := decide_eq_false (by omega)
  have d2 : decide (k < 0) = true := decide_eq_true (by omega)
  go_enter Try.func28, Try.ntmps28
  go_wp2_with (first
    | ((with_reducible refine wpl ?_); apply al_box (hM := hM); rfl; (first | exact want_none rfl | exact want_some rfl rfl rfl rfl); (first | (focus (go_simp; done)) | (focus (go_simp; rfl))); intro gb w1 hM1; clear hM; dsimp only [Value.cells] at hM1; have hM := hM1; clear hM1; simp only [Act.put, List.setIfInBounds_toArray, List.set_cons_zero, List.set_cons_succ])
    | ((with_reducible refine wpl ?_); apply ld_row (hM := hM); rfl; (first | exact want_none rfl | exact want_some rfl rfl rfl rfl); rfl; (first | exact .head _ _ | exact .tail (.head _ _) | exact .tail (.tail (.head _ _)) | exact .tail (.tail (.tail (.head _ _))) | exact .tail (.tail (.tail (.tail (.head _ _))))); (first | exact row41); simp only [Act.put, List.setIfInBounds_toArray, List.set_cons_zero, List.set_cons_succ])
    | ((with_reducible refine wpl ?_); apply st_row (hM := hM); rfl; (first | exact want_none rfl | exact want_some rfl rfl rfl rfl); rfl; (first | (focus (go_simp; done)) | (focus (go_simp; rfl))); (first | exact .head _ _ | exact .tail (.head _ _) | exact .tail (.tail (.head _ _)) | exact .tail (.tail (.tail (.head _ _))) | exact .tail (.tail (.tail (.tail (.head _ _))))); rfl; rfl; (first | exact row41); intro w1 hM1; clear hM; (try simp only [List.setIfInBounds_toArray, List.set_cons_zero, List.set_cons_succ] at hM1); (try rw [tab_setInt] at hM1);  have hM := hM1; clear hM1; simp only [Act.put, List.setIfInBounds_toArray, List.set_cons_zero, List.set_cons_succ])
    | ((with_reducible refine wpl ?_); apply ld_one (hM := hM); rfl; (first | exact want_none rfl | exact want_some rfl rfl rfl rfl); rfl; (first | exact .head _ _ | exact .tail (.head _ _) | exact .tail (.tail (.head _ _)) | exact .tail (.tail (.tail (.head _ _))) | exact .tail (.tail (.tail (.tail (.head _ _))))); (first | (focus (simp only [List.getElem?_toArray, List.getElem?_cons_zero, List.getElem?_cons_succ]; rfl)) | exact tab_get (by omega) | rfl); (first | exact one3 | exact one39); simp only [Act.put, List.setIfInBounds_toArray, List.set_cons_zero, List.set_cons_succ])
    | ((with_reducible refine wpl ?_); apply st_cell (hM := hM); rfl; (first | exact want_none rfl | exact want_some rfl rfl rfl rfl); rfl; (first | (focus (go_simp; done)) | (focus (go_simp; rfl))); (first | exact .head _ _ | exact .tail (.head _ _) | exact .tail (.tail (.head _ _)) | exact .tail (.tail (.tail (.head _ _))) | exact .tail (.tail (.tail (.tail (.head _ _))))); (first | (focus (simp; done)) | (focus (rw [tab_size]; omega))); rfl; (first | exact one3 | exact one39); intro w1 hM1; clear hM; (try simp only [List.setIfInBounds_toArray, List.set_cons_zero, List.set_cons_succ] at hM1); (try rw [tab_setInt] at hM1);  have hM := hM1; clear hM1; simp only [Act.put, List.setIfInBounds_toArray, List.set_cons_zero, List.set_cons_succ])
    | (go_at_call 31; (with_reducible refine (right_ hM _ m _ n hn hL.out).mono ?_); rintro e w3 ⟨rfl, hM1⟩; clear hM; have hM := hM1; clear hM1))
  go_ret2
  exact ⟨rfl, hM.tail⟩

set_option maxHeartbeats 2000000 in
theorem eread_bad_d (hM : Mem w0 w (arena p s) l) (b : Option Addr) (m c n : Nat) (hL : Hid (m = nd n)) (hn : n ≤ 1048576) (q k : Int) (c1 : 0 ≤ q) (c2 : q ≤ n) (c3 : 0 ≤ k) (c4 : n - q < k) :
    Calls Try.prog 28 #[own p, .agg #[.slice b m c, .int .i64 n], .int .i64 q, .int .i64 k] w fun e w' => e = .returned (.tuple #[.slice none 0 0, .int .i64 1]) ∧ Mem w0 w' (arena p s) l := by
  have d0 : decide (q < 0) = false := decide_eq_false (by omega)
  have d1 : decide (q > n) = false := decide_eq_false (by omega)
  have d2 : decide (k < 0) = false := decide_eq_false (by omega)
  have d3 : decide (k > n - q) = true := decide_eq_true (by omega)
  go_enter Try.func28, Try.ntmps28
  go_wp2_with (first
    | ((with_reducible refine wpl ?_); apply al_box (hM := hM); rfl; (first | exact want_none rfl | exact want_some rfl rfl rfl rfl); (first | (focus (go_simp; done)) | (focus (go_simp; rfl))); intro gb w1 hM1; clear hM; dsimp only [Value.cells] at hM1; have hM := hM1; clear hM1; simp only [Act.put, List.setIfInBounds_toArray, List.set_cons_zero, List.set_cons_succ])
    | ((with_reducible refine wpl ?_); apply ld_row (hM := hM); rfl; (first | exact want_none rfl | exact want_some rfl rfl rfl rfl); rfl; (first | exact .head _ _ | exact .tail (.head _ _) | exact .tail (.tail (.head _ _)) | exact .tail (.tail (.tail (.head _ _))) | exact .tail (.tail (.tail (.tail (.head _ _))))); (first | exact row41); simp only [Act.put, List.setIfInBounds_toArray, List.set_cons_zero, List.set_cons_succ])
    | ((with_reducible refine wpl ?_); apply st_row (hM := hM); rfl; (first | exact want_none rfl | exact want_some rfl rfl rfl rfl); rfl; (first | (focus (go_simp; done)) | (focus (go_simp; rfl))); (first | exact .head _ _ | exact .tail (.head _ _) | exact .tail (.tail (.head _ _)) | exact .tail (.tail (.tail (.head _ _))) | exact .tail (.tail (.tail (.tail (.head _ _))))); rfl; rfl; (first | exact row41); intro w1 hM1; clear hM; (try simp only [List.setIfInBounds_toArray, List.set_cons_zero, List.set_cons_succ] at hM1); (try rw [tab_setInt] at hM1);  have hM := hM1; clear hM1; simp only [Act.put, List.setIfInBounds_toArray, List.set_cons_zero, List.set_cons_succ])
    | ((with_reducible refine wpl ?_); apply ld_one (hM := hM); rfl; (first | exact want_none rfl | exact want_some rfl rfl rfl rfl); rfl; (first | exact .head _ _ | exact .tail (.head _ _) | exact .tail (.tail (.head _ _)) | exact .tail (.tail (.tail (.head _ _))) | exact .tail (.tail (.tail (.tail (.head _ _))))); (first | (focus (simp only [List.getElem?_toArray, List.getElem?_cons_zero, List.getElem?_cons_succ]; rfl)) | exact tab_get (by omega) | rfl); (first | exact one3 | exact one39); simp only [Act.put, List.setIfInBounds_toArray, List.set_cons_zero, List.set_cons_succ])
    | ((with_reducible refine wpl ?_); apply st_cell (hM := hM); rfl; (first | exact want_none rfl | exact want_some rfl rfl rfl rfl); rfl; (first | (focus (go_simp; done)) | (focus (go_simp; rfl))); (first | exact .head _ _ | exact .tail (.head _ _) | exact .tail (.tail (.head _ _)) | exact .tail (.tail (.tail (.head _ _))) | exact .tail (.tail (.tail (.tail (.head _ _))))); (first | (focus (simp; done)) | (focus (rw [tab_size]; omega))); rfl; (first | exact one3 | exact one39); intro w1 hM1; clear hM; (try simp only [List.setIfInBounds_toArray, List.set_cons_zero, List.set_cons_succ] at hM1); (try rw [tab_setInt] at hM1);  have hM := hM1; clear hM1; simp only [Act.put, List.setIfInBounds_toArray, List.set_cons_zero, List.set_cons_succ])
    | (go_at_call 31; (with_reducible refine (right_ hM _ m _ n hn hL.out).mono ?_); rintro e w3 ⟨rfl, hM1⟩; clear hM; have hM := hM1; clear hM1))
  go_ret2
  exact ⟨rfl, hM.tail⟩

theorem eread_bad (hM : Mem w0 w (arena p s) l) (b : Option Addr) (m c n : Nat) (hL : m = nd n) (hn : n ≤ 1048576) (q k : Int) (h : q < 0 ∨ (n : Int) < q ∨ k < 0 ∨ n - q < k) :
    Calls Try.prog 28 #[own p, .agg #[.slice b m c, .int .i64 n], .int .i64 q, .int .i64 k] w fun e w' => e = .returned (.tuple #[.slice none 0 0, .int .i64 1]) ∧ Mem w0 w' (arena p s) l := by
  by_cases c1 : q < 0
  · exact eread_bad_a hM b m c n hL hn q k c1
  by_cases c2 : (n : Int) < q
  · exact eread_bad_b hM b m c n hL hn q k (by omega) c2
  by_cases c3 : k < 0
  · exact eread_bad_c hM b m c n hL hn q k (by omega) (by omega) c3
  exact eread_bad_d hM b m c n hL hn q k (by omega) (by omega) (by omega) (by omega)
end
end Go.Proofs.Ytiamkbmefllljaa.E
