/- As many blocks are taken as there are, no two the same; dropped, they are taken again, all noughts. No condition. -/
import Derived.Test.YtiamkbmefllljaaQuiet
import Derived.Test.YtiamkbmefllljaaMp
import Derived.Deep.LoopGhost
set_option linter.unusedSimpArgs false
set_option linter.unusedVariables false
namespace Go.Proofs.Ytiamkbmefllljaa.Full
open Go.RowKit Go.Proofs.Ytiamkbmefllljaa.M Go.Proofs.Ytiamkbmefllljaa.A Go.Proofs.Ytiamkbmefllljaa.L

theorem und28 : Try.prog.underlying 28 = some (.map 3 4) := by kernel_rfl
theorem und3 : Try.prog.underlying 3 = some (.int .i64) := by kernel_rfl
theorem zero4 : zeroIs Try.prog 4 (.bool false) := by unfold zeroIs; kernel_rfl
theorem cf18' : ∀ (vs : Array Value) (w : World), (callFunc 18 vs).run Try.prog w = .ok (.enter 18 vs) w := fun vs w => by kernel_rfl
theorem row_bytes {B : Base} {fr l r : List Blk} {g n cc : Nat} {cells : Array Value} {t : TypeId} {fz : Nat × Nat} (hp : Pick l ⟨g, cells, t, fz⟩ r) (bs : List UInt8) (hn : bs.length = n) (hc : n ≤ cc) (h : ∀ j, j < n → cells[j]? = some (M.u8 (bs.getD j 0))) (w' : World) (hM : Mem B w' fr l) :
    Bytes w' (.slice (some ⟨g, 0, none⟩) n cc) bs :=
  bytes_of hM hp bs hn hc (fun j hj => by rw [Nat.zero_add]; exact h j hj)
theorem came_ {w1 : World} {B : Base} {w : World} {fr l : List Blk} {x : Value} {bs : List UInt8} (h : Bytes w1 x bs) (hB : B.w = w1) (hM : Mem B w fr l) : Bytes w x bs := by
  subst hB
  exact h.came hM
theorem cnt_zero {H : Nat → Int} (h : ∀ id, H id = 0) (n : Nat) : cnt H n = 0 := by
  induction n with
  | zero => rfl
  | succ n ih => simp only [cnt]; rw [ih, h n]; rfl
/-- The entries of a set of blocks. -/
def ents (T : List Nat) : List (Int × Value) := T.map fun (i : Nat) => ((i : Int), Value.bool true)
theorem ents_app (T : List Nat) (k : Nat) : ents T ++ [((k : Int), Value.bool true)] = ents (T ++ [k]) := by unfold ents; rw [List.map_append]; rfl
theorem ents_ne {T : List Nat} {k : Nat} (h : k ∉ T) : ∀ p ∈ ents T, p.1 ≠ (k : Int) := by
  intro p hp e
  unfold ents at hp
  obtain ⟨i, hi, rfl⟩ := List.mem_map.1 hp
  simp only at e
  exact h (by rw [← Int.ofNat_inj.1 e]; exact hi)

set_option maxRecDepth 100000 in
set_option maxHeartbeats 4000000 in
theorem full_ok (w : World) (n0 : Nat) (x : Value) (bs : List UInt8) (hB : Bytes w x bs) (hn0 : n0 ≤ 50) (hl : bs.length ≤ 64) : Calls Try.prog 3 #[.int .i64 n0, x] w fun e w' => e = .returned (.bool true) ∧ Below w.heap.size w w' := by
  have hM := Mem.start w
  obtain ⟨xb, xc, rfl⟩ := hB.len
  have d9 : decide ((n0 : Int) < 0) = false := decide_eq_false (by omega)
  have d8 : decide ((n0 : Int) > 50) = false := decide_eq_false (by omega)
  have d7 : decide ((bs.length : Int) > 64) = false := decide_eq_false (by omega)
  go_enter Try.func3, Try.ntmps3
  go_wp2_with (first | (go_at_call 14; (with_reducible refine (holds_mem _).mono ?_); rintro e w3 ⟨rfl, hb⟩; replace hM := hM.step hb; clear hb) | ((with_reducible refine wpl ?_); apply al_box (hM := hM); rfl; (first | exact want_none rfl | exact want_some rfl rfl rfl rfl); (first | (focus (go_simp; done)) | (focus (go_simp; rfl))); intro gb w1 hM1; clear hM; dsimp only [Value.cells] at hM1; have hM := hM1; clear hM1; simp only [Act.put, List.setIfInBounds_toArray, List.set_cons_zero, List.set_cons_succ]) | ((with_reducible refine wpl ?_); apply ld_one (hM := hM); rfl; (first | exact want_none rfl | exact want_some rfl rfl rfl rfl); rfl; (first | exact .head _ _ | exact .tail (.head _ _) | exact .tail (.tail (.head _ _)) | exact .tail (.tail (.tail (.head _ _))) | exact .tail (.tail (.tail (.tail (.head _ _))))); (first | (focus (simp only [List.getElem?_toArray, List.getElem?_cons_zero, List.getElem?_cons_succ]; rfl)) | exact tab_get (by omega) | rfl); (first | exact one3 | exact one39 | exact one22); simp only [Act.put, List.setIfInBounds_toArray, List.set_cons_zero, List.set_cons_succ]) | ((with_reducible refine wpl ?_); apply st_cell (hM := hM); rfl; (first | exact want_none rfl | exact want_some rfl rfl rfl rfl); rfl; (first | (focus (go_simp; done)) | (focus (go_simp; rfl))); (first | exact .head _ _ | exact .tail (.head _ _) | exact .tail (.tail (.head _ _)) | exact .tail (.tail (.tail (.head _ _))) | exact .tail (.tail (.tail (.tail (.head _ _))))); (first | (focus (simp; done)) | (focus (rw [tab_size]; omega))); rfl; (first | exact one3 | exact one39 | exact one22); intro w1 hM1; clear hM; (try simp only [List.setIfInBounds_toArray, List.set_cons_zero, List.set_cons_succ] at hM1); (try rw [tab_setInt] at hM1);  have hM := hM1; clear hM1; simp only [Act.put, List.setIfInBounds_toArray, List.set_cons_zero, List.set_cons_succ]))
  refine (new hM n0 (by omega) rfl).mono ?_
  rintro e w3 ⟨p, s, rfl, hn, ok, hm, hH, hM1⟩
  clear hM
  have hM := hM1
  clear hM1
  replace hn := hid_ hn
  replace hm := hid_ hm
  replace hH := hid_ hH
  go_wp2_with (first | ((with_reducible refine wpl ?_); apply al_box (hM := hM); rfl; (first | exact want_none rfl | exact want_some rfl rfl rfl rfl); (first | (focus (go_simp; done)) | (focus (go_simp; rfl))); intro gb w1 hM1; clear hM; dsimp only [Value.cells] at hM1; have hM := hM1; clear hM1; simp only [Act.put, List.setIfInBounds_toArray, List.set_cons_zero, List.set_cons_succ]) | ((with_reducible refine wpl ?_); apply ld_one (hM := hM); rfl; (first | exact want_none rfl | exact want_some rfl rfl rfl rfl); rfl; (first | exact .head _ _ | exact .tail (.head _ _) | exact .tail (.tail (.head _ _)) | exact .tail (.tail (.tail (.head _ _))) | exact .tail (.tail (.tail (.tail (.head _ _))))); (first | (focus (simp only [List.getElem?_toArray, List.getElem?_cons_zero, List.getElem?_cons_succ]; rfl)) | exact tab_get (by omega) | rfl); (first | exact one3 | exact one39 | exact one22); simp only [Act.put, List.setIfInBounds_toArray, List.set_cons_zero, List.set_cons_succ]) | ((with_reducible refine wpl ?_); apply st_cell (hM := hM); rfl; (first | exact want_none rfl | exact want_some rfl rfl rfl rfl); rfl; (first | (focus (go_simp; done)) | (focus (go_simp; rfl))); (first | exact .head _ _ | exact .tail (.head _ _) | exact .tail (.tail (.head _ _)) | exact .tail (.tail (.tail (.head _ _))) | exact .tail (.tail (.tail (.tail (.head _ _))))); (first | (focus (simp; done)) | (focus (rw [tab_size]; omega))); rfl; (first | exact one3 | exact one39 | exact one22); intro w1 hM1; clear hM; (try simp only [List.setIfInBounds_toArray, List.set_cons_zero, List.set_cons_succ] at hM1); (try rw [tab_setInt] at hM1);  have hM := hM1; clear hM1; simp only [Act.put, List.setIfInBounds_toArray, List.set_cons_zero, List.set_cons_succ]))
  go_loopw [33] (fun xr wr => ∃ (r : Nat) (s0 : St) (ms : List (Nat × Obj)), r ≤ 2 ∧ xr = .int .i64 r ∧ Okay p s0 ∧ Hid (∀ i, s0.H i = 0) ∧ Mem ⟨w, ms⟩ wr (arena p s0) []) (fun xr _ => 2 - (intOf xr).toNat)
  case atStart => exact ⟨0, s, [], by omega, by go_num, ok, hH, hM⟩
  case round =>
    obtain ⟨r, s0, ms, hr, rfl, oks, hHz, hMr⟩ := hrel
    clear hM
    have hM := hMr
    clear hMr
    by_cases hlr : r < 2
    · have hlri : (r : Int) < 2 := by omega
      go_wp2_with (first | ((with_reducible refine wpl ?_); apply mp_make (hM := hM); rfl; (first | exact want_none rfl | exact want_some rfl rfl rfl rfl); intro gm w1 hne hE hM1; clear hM; have hM := hM1; clear hM1; simp only [Act.put, List.setIfInBounds_toArray, List.set_cons_zero, List.set_cons_succ]) | ((with_reducible refine wpl ?_); apply al_box (hM := hM); rfl; (first | exact want_none rfl | exact want_some rfl rfl rfl rfl); (first | (focus (go_simp; done)) | (focus (go_simp; rfl))); intro gb w1 hM1; clear hM; dsimp only [Value.cells] at hM1; have hM := hM1; clear hM1; simp only [Act.put, List.setIfInBounds_toArray, List.set_cons_zero, List.set_cons_succ]) | ((with_reducible refine wpl ?_); apply ld_one (hM := hM); rfl; (first | exact want_none rfl | exact want_some rfl rfl rfl rfl); rfl; (first | exact .head _ _ | exact .tail (.head _ _) | exact .tail (.tail (.head _ _)) | exact .tail (.tail (.tail (.head _ _))) | exact .tail (.tail (.tail (.tail (.head _ _))))); (first | (focus (simp only [List.getElem?_toArray, List.getElem?_cons_zero, List.getElem?_cons_succ]; rfl)) | exact tab_get (by omega) | rfl); (first | exact one3 | exact one39 | exact one22); simp only [Act.put, List.setIfInBounds_toArray, List.set_cons_zero, List.set_cons_succ]) | ((with_reducible refine wpl ?_); apply st_cell (hM := hM); rfl; (first | exact want_none rfl | exact want_some rfl rfl rfl rfl); rfl; (first | (focus (go_simp; done)) | (focus (go_simp; rfl))); (first | exact .head _ _ | exact .tail (.head _ _) | exact .tail (.tail (.head _ _)) | exact .tail (.tail (.tail (.head _ _))) | exact .tail (.tail (.tail (.tail (.head _ _))))); (first | (focus (simp; done)) | (focus (rw [tab_size]; omega))); rfl; (first | exact one3 | exact one39 | exact one22); intro w1 hM1; clear hM; (try simp only [List.setIfInBounds_toArray, List.set_cons_zero, List.set_cons_succ] at hM1); (try rw [tab_setInt] at hM1);  have hM := hM1; clear hM1; simp only [Act.put, List.setIfInBounds_toArray, List.set_cons_zero, List.set_cons_succ]))
      go_loopw [37] (fun xk wr => ∃ (k : Nat) (ss : St) (T : List Nat) (es : Array MapEntry) (clk : Nat), k ≤ n0 ∧ xk = .int .i64 k ∧ Okay p ss ∧ Hid (T.Nodup) ∧ Hid (T.length = k) ∧ Hid (∀ i, ss.H i = if i ∈ T then 1 else 0) ∧ Hid (ss.m + k = n0) ∧ Hid (∀ i ∈ T, i < p.n) ∧ IsM es clk (ents T) ∧ Mem ⟨w, (gm, .map es clk) :: ms⟩ wr (arena p ss) []) (fun xk _ => n0 - (intOf xk).toNat)
      case atStart => exact ⟨0, s0, [], _, _, Nat.zero_le _, by go_num, oks, hid_ List.nodup_nil, hid_ rfl, hid_ (fun i => by rw [hHz.out i]; rfl), hid_ (by have h1 := oks.bal; have h2 := hn.out; rw [cnt_zero hHz.out] at h1; omega), hid_ (fun i hi => by simp at hi), hE, hM⟩
      case round =>
        obtain ⟨k, ss, T, es, clk, hk0, rfl, okss, hT, hTk, hHs, hmk, hTn, hE1, hMr⟩ := hrel
        clear hM hE
        have hM := hMr
        have hE := hE1
        clear hMr hE1
        by_cases hlt : k < n0
        · as_aux_lemma =>
            go_wp2_with (first | ((with_reducible refine wpl ?_); apply al_box (hM := hM); rfl; (first | exact want_none rfl | exact want_some rfl rfl rfl rfl); (first | (focus (go_simp; done)) | (focus (go_simp; rfl))); intro gb w1 hM1; clear hM; dsimp only [Value.cells] at hM1; have hM := hM1; clear hM1; simp only [Act.put, List.setIfInBounds_toArray, List.set_cons_zero, List.set_cons_succ]) | ((with_reducible refine wpl ?_); apply ld_one (hM := hM); rfl; (first | exact want_none rfl | exact want_some rfl rfl rfl rfl); rfl; (first | exact .head _ _ | exact .tail (.head _ _) | exact .tail (.tail (.head _ _)) | exact .tail (.tail (.tail (.head _ _))) | exact .tail (.tail (.tail (.tail (.head _ _))))); (first | (focus (simp only [List.getElem?_toArray, List.getElem?_cons_zero, List.getElem?_cons_succ]; rfl)) | exact tab_get (by omega) | rfl); (first | exact one3 | exact one39 | exact one22); simp only [Act.put, List.setIfInBounds_toArray, List.set_cons_zero, List.set_cons_succ]) | ((with_reducible refine wpl ?_); apply st_cell (hM := hM); rfl; (first | exact want_none rfl | exact want_some rfl rfl rfl rfl); rfl; (first | (focus (go_simp; done)) | (focus (go_simp; rfl))); (first | exact .head _ _ | exact .tail (.head _ _) | exact .tail (.tail (.head _ _)) | exact .tail (.tail (.tail (.head _ _))) | exact .tail (.tail (.tail (.tail (.head _ _))))); (first | (focus (simp; done)) | (focus (rw [tab_size]; omega))); rfl; (first | exact one3 | exact one39 | exact one22); intro w1 hM1; clear hM; (try simp only [List.setIfInBounds_toArray, List.set_cons_zero, List.set_cons_succ] at hM1); (try rw [tab_setInt] at hM1);  have hM := hM1; clear hM1; simp only [Act.put, List.setIfInBounds_toArray, List.set_cons_zero, List.set_cons_succ]))
            refine (take hM okss (by have := hmk.out; omega)).mono ?_
            rintro e w3 ⟨k0, s2, rfl, hM1, ok2, hk, h0, hD2, hH2, hm2⟩
            clear hM
            have hM := hM1
            clear hM1
            replace hD2 := hid_ hD2
            replace hH2 := hid_ hH2
            replace hm2 := hid_ hm2
            have hkT : k0 ∉ T := fun hin => by have h1 := hHs.out k0; rw [if_pos hin, h0] at h1; exact absurd h1 (by decide)
            clear h0
            have hp2 : 0 < s2.H k0 := by rw [hH2.out, up1_self]; decide
            go_wp2_with (first | ((with_reducible refine wpl ?_); apply al_box (hM := hM); rfl; (first | exact want_none rfl | exact want_some rfl rfl rfl rfl); (first | (focus (go_simp; done)) | (focus (go_simp; rfl))); intro gb w1 hM1; clear hM; dsimp only [Value.cells] at hM1; have hM := hM1; clear hM1; simp only [Act.put, List.setIfInBounds_toArray, List.set_cons_zero, List.set_cons_succ]) | ((with_reducible refine wpl ?_); apply ld_one (hM := hM); rfl; (first | exact want_none rfl | exact want_some rfl rfl rfl rfl); rfl; (first | exact .head _ _ | exact .tail (.head _ _) | exact .tail (.tail (.head _ _)) | exact .tail (.tail (.tail (.head _ _))) | exact .tail (.tail (.tail (.tail (.head _ _))))); (first | (focus (simp only [List.getElem?_toArray, List.getElem?_cons_zero, List.getElem?_cons_succ]; rfl)) | exact tab_get (by omega) | rfl); (first | exact one3 | exact one39 | exact one22); simp only [Act.put, List.setIfInBounds_toArray, List.set_cons_zero, List.set_cons_succ]) | ((with_reducible refine wpl ?_); apply st_cell (hM := hM); rfl; (first | exact want_none rfl | exact want_some rfl rfl rfl rfl); rfl; (first | (focus (go_simp; done)) | (focus (go_simp; rfl))); (first | exact .head _ _ | exact .tail (.head _ _) | exact .tail (.tail (.head _ _)) | exact .tail (.tail (.tail (.head _ _))) | exact .tail (.tail (.tail (.tail (.head _ _))))); (first | (focus (simp; done)) | (focus (rw [tab_size]; omega))); rfl; (first | exact one3 | exact one39 | exact one22); intro w1 hM1; clear hM; (try simp only [List.setIfInBounds_toArray, List.set_cons_zero, List.set_cons_succ] at hM1); (try rw [tab_setInt] at hM1);  have hM := hM1; clear hM1; simp only [Act.put, List.setIfInBounds_toArray, List.set_cons_zero, List.set_cons_succ]))
            refine (read hM ok2 k0 hk hp2 0 64 rfl rfl (by omega) (by omega)).mono ?_
            rintro e w4 ⟨g5, c5, cs5, rfl, hM1, hs5, hc5, hg5⟩
            clear hM
            have hM := hM1
            clear hM1
            have hg0 : Hid (∀ j, j < 64 → cs5[j]? = some (M.u8 ((List.replicate 64 (0 : UInt8)).getD j 0))) := hid_ (fun j hj => by
              rw [hg5 j hj, hD2.out, put_eq, if_pos (by rw [List.length_replicate]; omega), getD_zeros, getD_zeros])
            clear hg5 hs5
            go_wp2_with (first | ((with_reducible refine wpl ?_); apply al_box (hM := hM); rfl; (first | exact want_none rfl | exact want_some rfl rfl rfl rfl); (first | (focus (go_simp; done)) | (focus (go_simp; rfl))); intro gb w1 hM1; clear hM; dsimp only [Value.cells] at hM1; have hM := hM1; clear hM1; simp only [Act.put, List.setIfInBounds_toArray, List.set_cons_zero, List.set_cons_succ]) | ((with_reducible refine wpl ?_); apply ld_one (hM := hM); rfl; (first | exact want_none rfl | exact want_some rfl rfl rfl rfl); rfl; (first | exact .head _ _ | exact .tail (.head _ _) | exact .tail (.tail (.head _ _)) | exact .tail (.tail (.tail (.head _ _))) | exact .tail (.tail (.tail (.tail (.head _ _))))); (first | (focus (simp only [List.getElem?_toArray, List.getElem?_cons_zero, List.getElem?_cons_succ]; rfl)) | exact tab_get (by omega) | rfl); (first | exact one3 | exact one39 | exact one22); simp only [Act.put, List.setIfInBounds_toArray, List.set_cons_zero, List.set_cons_succ]) | ((with_reducible refine wpl ?_); apply st_cell (hM := hM); rfl; (first | exact want_none rfl | exact want_some rfl rfl rfl rfl); rfl; (first | (focus (go_simp; done)) | (focus (go_simp; rfl))); (first | exact .head _ _ | exact .tail (.head _ _) | exact .tail (.tail (.head _ _)) | exact .tail (.tail (.tail (.head _ _))) | exact .tail (.tail (.tail (.tail (.head _ _))))); (first | (focus (simp; done)) | (focus (rw [tab_size]; omega))); rfl; (first | exact one3 | exact one39 | exact one22); intro w1 hM1; clear hM; (try simp only [List.setIfInBounds_toArray, List.set_cons_zero, List.set_cons_succ] at hM1); (try rw [tab_setInt] at hM1);  have hM := hM1; clear hM1; simp only [Act.put, List.setIfInBounds_toArray, List.set_cons_zero, List.set_cons_succ]))
            refine reg_begin (fun w' => Mem ⟨w, (gm, .map es clk) :: ms⟩ w' [] [⟨g5, cs5, 5, (0, 0)⟩]) (by kernel_rfl) hM (fun wd hMd => ?_)
            clear hM
            have hM := hMd
            clear hMd
            have hS := hM.swap.none.swap
            refine reg_free 0 (v := .int .i64 0) rfl (by kernel_rfl) (by kernel_rfl) (by kernel_rfl) (fun _ _ _ h => h) (by (first | exact want_none rfl | exact want_some rfl rfl rfl rfl)) (fun w => by go_simp) hS ?_
            simp only [Act.put, List.setIfInBounds_toArray, List.set_cons_zero, List.set_cons_succ]
            refine reg_free 1 (v := .bool false) rfl (by kernel_rfl) (by kernel_rfl) (by kernel_rfl) (fun _ _ _ h => h) (by (first | exact want_none rfl | exact want_some rfl rfl rfl rfl)) (fun w => by go_simp) hS ?_
            simp only [Act.put, List.setIfInBounds_toArray, List.set_cons_zero, List.set_cons_succ]
            refine reg_free 2 (v := .bool false) rfl (by kernel_rfl) (by kernel_rfl) (by kernel_rfl) (fun _ _ _ h => h) (by (first | exact want_none rfl | exact want_some rfl rfl rfl rfl)) (fun w => by go_simp) hS ?_
            simp only [Act.put, List.setIfInBounds_toArray, List.set_cons_zero, List.set_cons_succ]
            refine reg_free 3 (v := .int .i64 0) rfl (by kernel_rfl) (by kernel_rfl) (by kernel_rfl) (fun _ _ _ h => h) (by (first | exact want_none rfl | exact want_some rfl rfl rfl rfl)) (fun w => by go_simp) hS ?_
            simp only [Act.put, List.setIfInBounds_toArray, List.set_cons_zero, List.set_cons_succ]
            refine reg_free 4 (v := .bool false) rfl (by kernel_rfl) (by kernel_rfl) (by kernel_rfl) (fun _ _ _ h => h) (by (first | exact want_none rfl | exact want_some rfl rfl rfl rfl)) (fun w => by go_simp) hS ?_
            simp only [Act.put, List.setIfInBounds_toArray, List.set_cons_zero, List.set_cons_succ]
            refine reg_free 5 (v := .bool false) rfl (by kernel_rfl) (by kernel_rfl) (by kernel_rfl) (fun _ _ _ h => h) (by (first | exact want_none rfl | exact want_some rfl rfl rfl rfl)) (fun w => by go_simp) hS ?_
            simp only [Act.put, List.setIfInBounds_toArray, List.set_cons_zero, List.set_cons_succ]
            refine reg_free 6 (v := .bool false) rfl (by kernel_rfl) (by kernel_rfl) (by kernel_rfl) (fun _ _ _ h => h) (by (first | exact want_none rfl | exact want_some rfl rfl rfl rfl)) (fun w => by go_simp) hS ?_
            simp only [Act.put, List.setIfInBounds_toArray, List.set_cons_zero, List.set_cons_succ]
            refine reg_free 7 (v := .map (some gm)) rfl (by kernel_rfl) (by kernel_rfl) (by kernel_rfl) (fun _ _ _ h => h) (by (first | exact want_none rfl | exact want_some rfl rfl rfl rfl)) (fun w => by go_simp) hS ?_
            simp only [Act.put, List.setIfInBounds_toArray, List.set_cons_zero, List.set_cons_succ]
            refine reg_free 8 (v := .int .i64 (k0 : Nat)) rfl (by kernel_rfl) (by kernel_rfl) (by kernel_rfl) (fun _ _ _ h => h) (by (first | exact want_none rfl | exact want_some rfl rfl rfl rfl)) (fun w => by go_simp) hS ?_
            simp only [Act.put, List.setIfInBounds_toArray, List.set_cons_zero, List.set_cons_succ]
            refine rg_val 9 (.bool false) rfl (by kernel_rfl) (by kernel_rfl) (by kernel_rfl) (fun _ _ _ h => h) (by (first | exact want_none rfl | exact want_some rfl rfl rfl rfl)) (fun w' h' => run_look_no rfl (h'.kget (List.mem_cons_self ..)) und28 und3 zero4 rfl rfl hE (ents_ne hkT)) hS ?_
            simp only [Act.put, List.setIfInBounds_toArray, List.set_cons_zero, List.set_cons_succ]
            refine reg_free 10 (v := .bool false) rfl (by kernel_rfl) (by kernel_rfl) (by kernel_rfl) (fun _ _ _ h => h) (by (first | exact want_none rfl | exact want_some rfl rfl rfl rfl)) (fun w => by go_simp) hS ?_
            simp only [Act.put, List.setIfInBounds_toArray, List.set_cons_zero, List.set_cons_succ]
            refine reg_free 11 (v := .bool false) rfl (by kernel_rfl) (by kernel_rfl) (by kernel_rfl) (fun _ _ _ h => h) (by (first | exact want_none rfl | exact want_some rfl rfl rfl rfl)) (fun w => by go_simp) hS ?_
            simp only [Act.put, List.setIfInBounds_toArray, List.set_cons_zero, List.set_cons_succ]
            refine reg_free 12 (v := .slice (some ⟨g5, 0, none⟩) 64 c5) rfl (by kernel_rfl) (by kernel_rfl) (by kernel_rfl) (fun _ _ _ h => h) (by (first | exact want_none rfl | exact want_some rfl rfl rfl rfl)) (fun w => by go_simp) hS ?_
            simp only [Act.put, List.setIfInBounds_toArray, List.set_cons_zero, List.set_cons_succ]
            refine rg_cv 13 (bs := List.replicate 64 (0 : UInt8)) rfl (by kernel_rfl) (by kernel_rfl) (by kernel_rfl) (fun _ _ _ h => h) (by (first | exact want_none rfl | exact want_some rfl rfl rfl rfl)) rfl und22 und5 und9 (fun w' h' => row_bytes (.head _ _) _ (by simp) hc5 hg0.out w' h') hS ?_
            simp only [Act.put, List.setIfInBounds_toArray, List.set_cons_zero, List.set_cons_succ]
            refine reg_step 14 (by kernel_rfl) rfl ?_
            apply al_make (hM := hM) (n := 64) (ht := sl22); rfl; (first | exact want_none rfl | exact want_some rfl rfl rfl rfl); rfl; rfl; decide; decide
            intro gz w5 hM1
            clear hM
            have hM := hM1
            clear hM1
            clear hS
            have hS := hM.tail.swap.none.swap
            refine ⟨hS, ?_⟩
            simp only [Act.put, List.setIfInBounds_toArray, List.set_cons_zero, List.set_cons_succ]
            refine reg_step 15 (by kernel_rfl) rfl ?_
            apply cv_bs (bs := List.replicate 64 (0 : UInt8)); rfl; (first | exact want_none rfl | exact want_some rfl rfl rfl rfl); exact und22; exact und5; exact und9; exact row_bytes (.head _ _) _ (by simp) (Nat.le_refl _) (fun j hj => by rw [show (Value.int .u8 0).cells = #[Value.int .u8 0] from rfl, madeCells_one, Nat.mul_one, tab_get hj, getD_zeros]; rfl) _ hM
            refine ⟨hS, ?_⟩
            simp only [Act.put, List.setIfInBounds_toArray, List.set_cons_zero, List.set_cons_succ]
            refine reg_free 16 (v := .bool false) rfl (by kernel_rfl) (by kernel_rfl) (by kernel_rfl) (fun _ _ _ h => h) (by (first | exact want_none rfl | exact want_some rfl rfl rfl rfl)) (fun w => by go_simp) hS ?_
            simp only [Act.put, List.setIfInBounds_toArray, List.set_cons_zero, List.set_cons_succ]
            refine reg_free 17 (v := .bool false) rfl (by kernel_rfl) (by kernel_rfl) (by kernel_rfl) (fun _ _ _ h => h) (by (first | exact want_none rfl | exact want_some rfl rfl rfl rfl)) (fun w => by go_simp) hS ?_
            simp only [Act.put, List.setIfInBounds_toArray, List.set_cons_zero, List.set_cons_succ]
            refine reg_free 18 (v := .bool false) rfl (by kernel_rfl) (by kernel_rfl) (by kernel_rfl) (fun _ _ _ h => h) (by (first | exact want_none rfl | exact want_some rfl rfl rfl rfl)) (fun w => by go_simp) hS ?_
            simp only [Act.put, List.setIfInBounds_toArray, List.set_cons_zero, List.set_cons_succ]
            refine reg_free 19 (v := own p) rfl (by kernel_rfl) (by kernel_rfl) (by kernel_rfl) (fun _ _ _ h => h) (by (first | exact want_none rfl | exact want_some rfl rfl rfl rfl)) (fun w => by go_simp) hS ?_
            simp only [Act.put, List.setIfInBounds_toArray, List.set_cons_zero, List.set_cons_succ]
            refine reg_free 20 (v := .int .i64 (k0 : Nat)) rfl (by kernel_rfl) (by kernel_rfl) (by kernel_rfl) (fun _ _ _ h => h) (by (first | exact want_none rfl | exact want_some rfl rfl rfl rfl)) (fun w => by go_simp) hS ?_
            simp only [Act.put, List.setIfInBounds_toArray, List.set_cons_zero, List.set_cons_succ]
            refine reg_free 21 (v := .slice xb bs.length xc) rfl (by kernel_rfl) (by kernel_rfl) (by kernel_rfl) (fun _ _ _ h => h) (by (first | exact want_none rfl | exact want_some rfl rfl rfl rfl)) (fun w => by go_simp) hS ?_
            simp only [Act.put, List.setIfInBounds_toArray, List.set_cons_zero, List.set_cons_succ]
            refine reg_step 22 (by kernel_rfl) rfl ?_
            refine call_fn rfl (by (first | exact want_none rfl | exact want_some rfl rfl rfl rfl)) cf18' (write' hM ok2 k0 hk hp2 0 rfl (.slice xb bs.length xc) bs (fun w' h' => came_ hB rfl h') (by omega) (by omega)) (by simp only [List.map_toArray, List.map_cons, List.map_nil]; rfl) ?_
            rintro e w6 ⟨s3, rfl, hM1, ok3, hD3, hH3, hm3⟩
            clear hM
            have hM := hM1
            clear hM1
            refine ⟨_, rfl, ?_⟩
            clear hS
            have hS := hM.tail.swap.none.swap
            refine ⟨hS, ?_⟩
            simp only [Act.put, List.setIfInBounds_toArray, List.set_cons_zero, List.set_cons_succ]
            refine reg_free 23 (v := .bool false) rfl (by kernel_rfl) (by kernel_rfl) (by kernel_rfl) (fun _ _ _ h => h) (by (first | exact want_none rfl | exact want_some rfl rfl rfl rfl)) (fun w => by go_simp) hS ?_
            simp only [Act.put, List.setIfInBounds_toArray, List.set_cons_zero, List.set_cons_succ]
            refine reg_free 24 (v := .bool false) rfl (by kernel_rfl) (by kernel_rfl) (by kernel_rfl) (fun _ _ _ h => h) (by (first | exact want_none rfl | exact want_some rfl rfl rfl rfl)) (fun w => by go_simp) hS ?_
            simp only [Act.put, List.setIfInBounds_toArray, List.set_cons_zero, List.set_cons_succ]
            refine reg_done (by kernel_rfl) ?_
            clear hS
            go_wp2_with (first | ((with_reducible refine wpl ?_); apply mp_new (hM := hM) (hne := hne) (hE := hE) (k := (k0 : Nat)) (hk := ents_ne hkT) (ht := und28) (hkt := und3); rfl; (first | exact want_none rfl | exact want_some rfl rfl rfl rfl); rfl; rfl; rfl; intro es2 clk2 w1 hE2 hM1; clear hM; have hM := hM1; clear hM1; simp only [Act.put, List.setIfInBounds_toArray, List.set_cons_zero, List.set_cons_succ]) | ((with_reducible refine wpl ?_); apply al_box (hM := hM); rfl; (first | exact want_none rfl | exact want_some rfl rfl rfl rfl); (first | (focus (go_simp; done)) | (focus (go_simp; rfl))); intro gb w1 hM1; clear hM; dsimp only [Value.cells] at hM1; have hM := hM1; clear hM1; simp only [Act.put, List.setIfInBounds_toArray, List.set_cons_zero, List.set_cons_succ]) | ((with_reducible refine wpl ?_); apply ld_one (hM := hM); rfl; (first | exact want_none rfl | exact want_some rfl rfl rfl rfl); rfl; (first | exact .head _ _ | exact .tail (.head _ _) | exact .tail (.tail (.head _ _)) | exact .tail (.tail (.tail (.head _ _))) | exact .tail (.tail (.tail (.tail (.head _ _))))); (first | (focus (simp only [List.getElem?_toArray, List.getElem?_cons_zero, List.getElem?_cons_succ]; rfl)) | exact tab_get (by omega) | rfl); (first | exact one3 | exact one39 | exact one22); simp only [Act.put, List.setIfInBounds_toArray, List.set_cons_zero, List.set_cons_succ]) | ((with_reducible refine wpl ?_); apply st_cell (hM := hM); rfl; (first | exact want_none rfl | exact want_some rfl rfl rfl rfl); rfl; (first | (focus (go_simp; done)) | (focus (go_simp; rfl))); (first | exact .head _ _ | exact .tail (.head _ _) | exact .tail (.tail (.head _ _)) | exact .tail (.tail (.tail (.head _ _))) | exact .tail (.tail (.tail (.tail (.head _ _))))); (first | (focus (simp; done)) | (focus (rw [tab_size]; omega))); rfl; (first | exact one3 | exact one39 | exact one22); intro w1 hM1; clear hM; (try simp only [List.setIfInBounds_toArray, List.set_cons_zero, List.set_cons_succ] at hM1); (try rw [tab_setInt] at hM1);  have hM := hM1; clear hM1; simp only [Act.put, List.setIfInBounds_toArray, List.set_cons_zero, List.set_cons_succ]))
            go_roundw
            case rel =>
              refine ⟨k + 1, s3, T ++ [k0], es2, clk2, by omega, by go_num, ok3, hid_ ?_, hid_ ?_, hid_ (fun i => ?_), hid_ ?_, hid_ (fun i hi => ?_), by rw [← ents_app]; exact hE2, hM.tail.tail⟩
              · rw [List.nodup_append]
                refine ⟨hT.out, by simp, fun u hu s hs e => ?_⟩
                rw [List.mem_singleton] at hs
                exact hkT (hs ▸ e ▸ hu)
              · rw [List.length_append, hTk.out]; rfl
              · rw [hH3, hH2.out]
                have h1 := hHs.out i
                unfold up1
                by_cases e : i = k0
                · rw [if_pos e, if_pos (by rw [e]; exact List.mem_append.2 (.inr (List.mem_singleton.2 rfl)))]
                · rw [if_neg e, h1]
                  by_cases hin : i ∈ T
                  · rw [if_pos hin, if_pos (List.mem_append.2 (.inl hin))]
                  · rw [if_neg hin, if_neg]
                    rintro h2
                    rcases List.mem_append.1 h2 with h2 | h2
                    · exact hin h2
                    · exact e (List.mem_singleton.1 h2)
              · rw [hm3]
                have h1 := hm2.out
                have h2 := hmk.out
                omega
              · rcases List.mem_append.1 hi with hi | hi
                · exact hTn.out i hi
                · rw [List.mem_singleton.1 hi]; exact hk
            case measure => simp [intOf]; omega
        · as_aux_lemma =>
            obtain rfl : n0 = k := by omega
            clear hlt hk0
            have hm0 : ss.m = 0 := by have := hmk.out; omega
            go_wp2_with (first | ((with_reducible refine wpl ?_); apply al_box (hM := hM); rfl; (first | exact want_none rfl | exact want_some rfl rfl rfl rfl); (first | (focus (go_simp; done)) | (focus (go_simp; rfl))); intro gb w1 hM1; clear hM; dsimp only [Value.cells] at hM1; have hM := hM1; clear hM1; simp only [Act.put, List.setIfInBounds_toArray, List.set_cons_zero, List.set_cons_succ]) | ((with_reducible refine wpl ?_); apply ld_one (hM := hM); rfl; (first | exact want_none rfl | exact want_some rfl rfl rfl rfl); rfl; (first | exact .head _ _ | exact .tail (.head _ _) | exact .tail (.tail (.head _ _)) | exact .tail (.tail (.tail (.head _ _))) | exact .tail (.tail (.tail (.tail (.head _ _))))); (first | (focus (simp only [List.getElem?_toArray, List.getElem?_cons_zero, List.getElem?_cons_succ]; rfl)) | exact tab_get (by omega) | rfl); (first | exact one3 | exact one39 | exact one22); simp only [Act.put, List.setIfInBounds_toArray, List.set_cons_zero, List.set_cons_succ]) | ((with_reducible refine wpl ?_); apply st_cell (hM := hM); rfl; (first | exact want_none rfl | exact want_some rfl rfl rfl rfl); rfl; (first | (focus (go_simp; done)) | (focus (go_simp; rfl))); (first | exact .head _ _ | exact .tail (.head _ _) | exact .tail (.tail (.head _ _)) | exact .tail (.tail (.tail (.head _ _))) | exact .tail (.tail (.tail (.tail (.head _ _))))); (first | (focus (simp; done)) | (focus (rw [tab_size]; omega))); rfl; (first | exact one3 | exact one39 | exact one22); intro w1 hM1; clear hM; (try simp only [List.setIfInBounds_toArray, List.set_cons_zero, List.set_cons_succ] at hM1); (try rw [tab_setInt] at hM1);  have hM := hM1; clear hM1; simp only [Act.put, List.setIfInBounds_toArray, List.set_cons_zero, List.set_cons_succ]))
            refine (take_none hM hm0).mono ?_
            rintro e w3 ⟨rfl, hM1⟩
            clear hM
            have hM := hM1
            clear hM1
            replace hm0 := hid_ hm0
            go_wp2_with (first | ((with_reducible refine wpl ?_); apply al_box (hM := hM); rfl; (first | exact want_none rfl | exact want_some rfl rfl rfl rfl); (first | (focus (go_simp; done)) | (focus (go_simp; rfl))); intro gb w1 hM1; clear hM; dsimp only [Value.cells] at hM1; have hM := hM1; clear hM1; simp only [Act.put, List.setIfInBounds_toArray, List.set_cons_zero, List.set_cons_succ]) | ((with_reducible refine wpl ?_); apply ld_one (hM := hM); rfl; (first | exact want_none rfl | exact want_some rfl rfl rfl rfl); rfl; (first | exact .head _ _ | exact .tail (.head _ _) | exact .tail (.tail (.head _ _)) | exact .tail (.tail (.tail (.head _ _))) | exact .tail (.tail (.tail (.tail (.head _ _))))); (first | (focus (simp only [List.getElem?_toArray, List.getElem?_cons_zero, List.getElem?_cons_succ]; rfl)) | exact tab_get (by omega) | rfl); (first | exact one3 | exact one39 | exact one22); simp only [Act.put, List.setIfInBounds_toArray, List.set_cons_zero, List.set_cons_succ]) | ((with_reducible refine wpl ?_); apply st_cell (hM := hM); rfl; (first | exact want_none rfl | exact want_some rfl rfl rfl rfl); rfl; (first | (focus (go_simp; done)) | (focus (go_simp; rfl))); (first | exact .head _ _ | exact .tail (.head _ _) | exact .tail (.tail (.head _ _)) | exact .tail (.tail (.tail (.head _ _))) | exact .tail (.tail (.tail (.tail (.head _ _))))); (first | (focus (simp; done)) | (focus (rw [tab_size]; omega))); rfl; (first | exact one3 | exact one39 | exact one22); intro w1 hM1; clear hM; (try simp only [List.setIfInBounds_toArray, List.set_cons_zero, List.set_cons_succ] at hM1); (try rw [tab_setInt] at hM1);  have hM := hM1; clear hM1; simp only [Act.put, List.setIfInBounds_toArray, List.set_cons_zero, List.set_cons_succ]))
            refine (free hM okss 0 (by rw [hm0.out]; rfl)).mono ?_
            rintro e w3 ⟨rfl, hM1⟩
            clear hM
            have hM := hM1
            clear hM1
            go_wp2_with (first | ((with_reducible refine wpl ?_); apply mp_range (hM := hM) (ht := und28); rfl; (first | exact want_none rfl | exact want_some rfl rfl rfl rfl); rfl; intro gi w1 hne2 hSn hM1; clear hM; have hM := hM1; clear hM1; simp only [Act.put, List.setIfInBounds_toArray, List.set_cons_zero, List.set_cons_succ]) | ((with_reducible refine wpl ?_); apply al_box (hM := hM); rfl; (first | exact want_none rfl | exact want_some rfl rfl rfl rfl); (first | (focus (go_simp; done)) | (focus (go_simp; rfl))); intro gb w1 hM1; clear hM; dsimp only [Value.cells] at hM1; have hM := hM1; clear hM1; simp only [Act.put, List.setIfInBounds_toArray, List.set_cons_zero, List.set_cons_succ]) | ((with_reducible refine wpl ?_); apply ld_one (hM := hM); rfl; (first | exact want_none rfl | exact want_some rfl rfl rfl rfl); rfl; (first | exact .head _ _ | exact .tail (.head _ _) | exact .tail (.tail (.head _ _)) | exact .tail (.tail (.tail (.head _ _))) | exact .tail (.tail (.tail (.tail (.head _ _))))); (first | (focus (simp only [List.getElem?_toArray, List.getElem?_cons_zero, List.getElem?_cons_succ]; rfl)) | exact tab_get (by omega) | rfl); (first | exact one3 | exact one39 | exact one22); simp only [Act.put, List.setIfInBounds_toArray, List.set_cons_zero, List.set_cons_succ]) | ((with_reducible refine wpl ?_); apply st_cell (hM := hM); rfl; (first | exact want_none rfl | exact want_some rfl rfl rfl rfl); rfl; (first | (focus (go_simp; done)) | (focus (go_simp; rfl))); (first | exact .head _ _ | exact .tail (.head _ _) | exact .tail (.tail (.head _ _)) | exact .tail (.tail (.tail (.head _ _))) | exact .tail (.tail (.tail (.tail (.head _ _))))); (first | (focus (simp; done)) | (focus (rw [tab_size]; omega))); rfl; (first | exact one3 | exact one39 | exact one22); intro w1 hM1; clear hM; (try simp only [List.setIfInBounds_toArray, List.set_cons_zero, List.set_cons_succ] at hM1); (try rw [tab_setInt] at hM1);  have hM := hM1; clear hM1; simp only [Act.put, List.setIfInBounds_toArray, List.set_cons_zero, List.set_cons_succ]))
            go_loopg [] n0 (fun q wr => ∃ (V : List MapEntry) (seen : Array Nat) (s4 : St), Hid (q + V.length = n0) ∧ Seen es seen V ∧ Okay p s4 ∧ Hid (∀ i, 0 < s4.H i ↔ (i ∈ T ∧ ∀ e ∈ V, e.key ≠ .int .i64 (i : Nat))) ∧ Hid (∀ i, s4.H i = 0 ∨ s4.H i = 1) ∧ Mem ⟨w, (gi, .mapIter (some gm) clk seen clk) :: (gm, .map es clk) :: ms⟩ wr (arena p s4) [])
            case atStart => exact ⟨[], #[], ss, hid_ (by simp), hSn, okss, hid_ (fun i => by
              have h1 := hHs.out i
              by_cases hin : i ∈ T
              · rw [if_pos hin] at h1; rw [h1]; simp [hin]
              · rw [if_neg hin] at h1; rw [h1]; simp [hin]), hid_ (fun i => by
              have h1 := hHs.out i
              by_cases hin : i ∈ T
              · rw [if_pos hin] at h1; exact .inr h1
              · rw [if_neg hin] at h1; exact .inl h1), hM⟩
            case round =>
              obtain ⟨V, seen, s4, hq, hSn1, ok4, hH4, hH01, hMr⟩ := hrel
              clear hM hSn
              have hM := hMr
              have hSn := hSn1
              clear hMr hSn1
              by_cases hall : ∀ e ∈ es.toList, e ∈ V
              · go_wp2_with (first | ((with_reducible refine wpl ?_); apply mp_over (hM := hM) (hne := hne2) (hE := hE) (hS := hSn) (hall := hall); rfl; (first | exact want_none rfl | exact want_some rfl rfl rfl rfl); rfl; intro w1 hM1; clear hM; have hM := hM1; clear hM1; simp only [Act.put, List.setIfInBounds_toArray, List.set_cons_zero, List.set_cons_succ]) | ((with_reducible refine wpl ?_); apply al_box (hM := hM); rfl; (first | exact want_none rfl | exact want_some rfl rfl rfl rfl); (first | (focus (go_simp; done)) | (focus (go_simp; rfl))); intro gb w1 hM1; clear hM; dsimp only [Value.cells] at hM1; have hM := hM1; clear hM1; simp only [Act.put, List.setIfInBounds_toArray, List.set_cons_zero, List.set_cons_succ]) | ((with_reducible refine wpl ?_); apply ld_one (hM := hM); rfl; (first | exact want_none rfl | exact want_some rfl rfl rfl rfl); rfl; (first | exact .head _ _ | exact .tail (.head _ _) | exact .tail (.tail (.head _ _)) | exact .tail (.tail (.tail (.head _ _))) | exact .tail (.tail (.tail (.tail (.head _ _))))); (first | (focus (simp only [List.getElem?_toArray, List.getElem?_cons_zero, List.getElem?_cons_succ]; rfl)) | exact tab_get (by omega) | rfl); (first | exact one3 | exact one39 | exact one22); simp only [Act.put, List.setIfInBounds_toArray, List.set_cons_zero, List.set_cons_succ]) | ((with_reducible refine wpl ?_); apply st_cell (hM := hM); rfl; (first | exact want_none rfl | exact want_some rfl rfl rfl rfl); rfl; (first | (focus (go_simp; done)) | (focus (go_simp; rfl))); (first | exact .head _ _ | exact .tail (.head _ _) | exact .tail (.tail (.head _ _)) | exact .tail (.tail (.tail (.head _ _))) | exact .tail (.tail (.tail (.tail (.head _ _))))); (first | (focus (simp; done)) | (focus (rw [tab_size]; omega))); rfl; (first | exact one3 | exact one39 | exact one22); intro w1 hM1; clear hM; (try simp only [List.setIfInBounds_toArray, List.set_cons_zero, List.set_cons_succ] at hM1); (try rw [tab_setInt] at hM1);  have hM := hM1; clear hM1; simp only [Act.put, List.setIfInBounds_toArray, List.set_cons_zero, List.set_cons_succ]))
                go_roundw
                case rel =>
                  refine ⟨r + 1, s4, _, by omega, by go_num, ok4, hid_ (fun i => ?_), hM⟩
                  rcases hH01.out i with h1 | h1
                  · exact h1
                  · exfalso
                    have h2 := (hH4.out i).1 (by omega)
                    have h3 : ((i : Int), Value.bool true) ∈ ents T := List.mem_map.2 ⟨i, h2.1, rfl⟩
                    have h4 : (Value.int .i64 (i : Nat), Value.bool true) ∈ (ents T).map (fun p => (Value.int .i64 p.1, p.2)) := List.mem_map.2 ⟨_, h3, rfl⟩
                    rw [← hE.cells] at h4
                    obtain ⟨e, he, h5⟩ := List.mem_map.1 h4
                    simp only [Prod.mk.injEq] at h5
                    exact h2.2 e (hall e he) h5.1
                case measure => simp [intOf]; omega
              · go_wp2_with (first | ((with_reducible refine wpl ?_); apply mp_more (hM := hM) (hne := hne2) (hE := hE) (hS := hSn) (hall := hall); rfl; (first | exact want_none rfl | exact want_some rfl rfl rfl rfl); rfl; intro w1 en kx vx hen hSn2 hM1; clear hM; have hM := hM1; clear hM1; simp only [Act.put, List.setIfInBounds_toArray, List.set_cons_zero, List.set_cons_succ]) | ((with_reducible refine wpl ?_); apply mp_entry' (hM := hM) (hE := hE) (he := hen); rfl; (first | exact want_none rfl | exact want_some rfl rfl rfl rfl); rfl; simp only [Act.put, List.setIfInBounds_toArray, List.set_cons_zero, List.set_cons_succ]) | ((with_reducible refine wpl ?_); apply al_box (hM := hM); rfl; (first | exact want_none rfl | exact want_some rfl rfl rfl rfl); (first | (focus (go_simp; done)) | (focus (go_simp; rfl))); intro gb w1 hM1; clear hM; dsimp only [Value.cells] at hM1; have hM := hM1; clear hM1; simp only [Act.put, List.setIfInBounds_toArray, List.set_cons_zero, List.set_cons_succ]) | ((with_reducible refine wpl ?_); apply ld_one (hM := hM); rfl; (first | exact want_none rfl | exact want_some rfl rfl rfl rfl); rfl; (first | exact .head _ _ | exact .tail (.head _ _) | exact .tail (.tail (.head _ _)) | exact .tail (.tail (.tail (.head _ _))) | exact .tail (.tail (.tail (.tail (.head _ _))))); (first | (focus (simp only [List.getElem?_toArray, List.getElem?_cons_zero, List.getElem?_cons_succ]; rfl)) | exact tab_get (by omega) | rfl); (first | exact one3 | exact one39 | exact one22); simp only [Act.put, List.setIfInBounds_toArray, List.set_cons_zero, List.set_cons_succ]) | ((with_reducible refine wpl ?_); apply st_cell (hM := hM); rfl; (first | exact want_none rfl | exact want_some rfl rfl rfl rfl); rfl; (first | (focus (go_simp; done)) | (focus (go_simp; rfl))); (first | exact .head _ _ | exact .tail (.head _ _) | exact .tail (.tail (.head _ _)) | exact .tail (.tail (.tail (.head _ _))) | exact .tail (.tail (.tail (.tail (.head _ _))))); (first | (focus (simp; done)) | (focus (rw [tab_size]; omega))); rfl; (first | exact one3 | exact one39 | exact one22); intro w1 hM1; clear hM; (try simp only [List.setIfInBounds_toArray, List.set_cons_zero, List.set_cons_succ] at hM1); (try rw [tab_setInt] at hM1);  have hM := hM1; clear hM1; simp only [Act.put, List.setIfInBounds_toArray, List.set_cons_zero, List.set_cons_succ]))
                obtain ⟨id, hidT, hpk⟩ := List.mem_map.1 hen.out.2.2.2.2
                simp only [Prod.mk.injEq] at hpk
                obtain ⟨rfl, rfl⟩ := hpk
                have hpos : 0 < s4.H id := (hH4.out id).2 ⟨hidT, fun e he hk => hen.out.2.1 (by
                  have h1 := hen.out
                  have h2 := hE.key_inj (hSn.sub e he) h1.1 (hk.trans h1.2.2.1.symm)
                  rw [← h2]
                  exact he)⟩
                have hone : s4.H id = 1 := by
                  rcases hH01.out id with h1 | h1
                  · omega
                  · exact h1
                have hidn := hTn.out id hidT
                replace hone := hid_ hone
                refine (drop hM ok4 id hidn hpos).mono ?_
                rintro e w4 ⟨s5, rfl, hM1, ok5, hD5, hH5, hm5⟩
                clear hM
                have hM := hM1
                clear hM1 hm5 hD5
                have hH5z : Hid (s5.H id = 0) := hid_ (by rw [hH5, up1_self, hone.out]; rfl)
                replace hH5 := hid_ hH5
                have hnh : Hid (¬ Held p s5 (id : Int)) := hid_ (fun h1 => by have h2 := h1.2.2; rw [Int.toNat_natCast, hH5z.out] at h2; exact absurd h2 (by decide))
                go_wp2_with (first | ((with_reducible refine wpl ?_); apply al_box (hM := hM); rfl; (first | exact want_none rfl | exact want_some rfl rfl rfl rfl); (first | (focus (go_simp; done)) | (focus (go_simp; rfl))); intro gb w1 hM1; clear hM; dsimp only [Value.cells] at hM1; have hM := hM1; clear hM1; simp only [Act.put, List.setIfInBounds_toArray, List.set_cons_zero, List.set_cons_succ]) | ((with_reducible refine wpl ?_); apply ld_one (hM := hM); rfl; (first | exact want_none rfl | exact want_some rfl rfl rfl rfl); rfl; (first | exact .head _ _ | exact .tail (.head _ _) | exact .tail (.tail (.head _ _)) | exact .tail (.tail (.tail (.head _ _))) | exact .tail (.tail (.tail (.tail (.head _ _))))); (first | (focus (simp only [List.getElem?_toArray, List.getElem?_cons_zero, List.getElem?_cons_succ]; rfl)) | exact tab_get (by omega) | rfl); (first | exact one3 | exact one39 | exact one22); simp only [Act.put, List.setIfInBounds_toArray, List.set_cons_zero, List.set_cons_succ]) | ((with_reducible refine wpl ?_); apply st_cell (hM := hM); rfl; (first | exact want_none rfl | exact want_some rfl rfl rfl rfl); rfl; (first | (focus (go_simp; done)) | (focus (go_simp; rfl))); (first | exact .head _ _ | exact .tail (.head _ _) | exact .tail (.tail (.head _ _)) | exact .tail (.tail (.tail (.head _ _))) | exact .tail (.tail (.tail (.tail (.head _ _))))); (first | (focus (simp; done)) | (focus (rw [tab_size]; omega))); rfl; (first | exact one3 | exact one39 | exact one22); intro w1 hM1; clear hM; (try simp only [List.setIfInBounds_toArray, List.set_cons_zero, List.set_cons_succ] at hM1); (try rw [tab_setInt] at hM1);  have hM := hM1; clear hM1; simp only [Act.put, List.setIfInBounds_toArray, List.set_cons_zero, List.set_cons_succ]))
                refine (drop_no hM id hnh ok5.n_le).mono ?_
                rintro e w5 ⟨rfl, hM1⟩
                clear hM
                have hM := hM1
                clear hM1
                go_wp2_with (first | ((with_reducible refine wpl ?_); apply al_box (hM := hM); rfl; (first | exact want_none rfl | exact want_some rfl rfl rfl rfl); (first | (focus (go_simp; done)) | (focus (go_simp; rfl))); intro gb w1 hM1; clear hM; dsimp only [Value.cells] at hM1; have hM := hM1; clear hM1; simp only [Act.put, List.setIfInBounds_toArray, List.set_cons_zero, List.set_cons_succ]) | ((with_reducible refine wpl ?_); apply ld_one (hM := hM); rfl; (first | exact want_none rfl | exact want_some rfl rfl rfl rfl); rfl; (first | exact .head _ _ | exact .tail (.head _ _) | exact .tail (.tail (.head _ _)) | exact .tail (.tail (.tail (.head _ _))) | exact .tail (.tail (.tail (.tail (.head _ _))))); (first | (focus (simp only [List.getElem?_toArray, List.getElem?_cons_zero, List.getElem?_cons_succ]; rfl)) | exact tab_get (by omega) | rfl); (first | exact one3 | exact one39 | exact one22); simp only [Act.put, List.setIfInBounds_toArray, List.set_cons_zero, List.set_cons_succ]) | ((with_reducible refine wpl ?_); apply st_cell (hM := hM); rfl; (first | exact want_none rfl | exact want_some rfl rfl rfl rfl); rfl; (first | (focus (go_simp; done)) | (focus (go_simp; rfl))); (first | exact .head _ _ | exact .tail (.head _ _) | exact .tail (.tail (.head _ _)) | exact .tail (.tail (.tail (.head _ _))) | exact .tail (.tail (.tail (.tail (.head _ _))))); (first | (focus (simp; done)) | (focus (rw [tab_size]; omega))); rfl; (first | exact one3 | exact one39 | exact one22); intro w1 hM1; clear hM; (try simp only [List.setIfInBounds_toArray, List.set_cons_zero, List.set_cons_succ] at hM1); (try rw [tab_setInt] at hM1);  have hM := hM1; clear hM1; simp only [Act.put, List.setIfInBounds_toArray, List.set_cons_zero, List.set_cons_succ]))
                refine (holds hM ok5 id hidn 0 hH5z.out).mono ?_
                rintro e w6 ⟨rfl, hM1⟩
                clear hM
                have hM := hM1
                clear hM1
                go_wp2_with (first | ((with_reducible refine wpl ?_); apply al_box (hM := hM); rfl; (first | exact want_none rfl | exact want_some rfl rfl rfl rfl); (first | (focus (go_simp; done)) | (focus (go_simp; rfl))); intro gb w1 hM1; clear hM; dsimp only [Value.cells] at hM1; have hM := hM1; clear hM1; simp only [Act.put, List.setIfInBounds_toArray, List.set_cons_zero, List.set_cons_succ]) | ((with_reducible refine wpl ?_); apply ld_one (hM := hM); rfl; (first | exact want_none rfl | exact want_some rfl rfl rfl rfl); rfl; (first | exact .head _ _ | exact .tail (.head _ _) | exact .tail (.tail (.head _ _)) | exact .tail (.tail (.tail (.head _ _))) | exact .tail (.tail (.tail (.tail (.head _ _))))); (first | (focus (simp only [List.getElem?_toArray, List.getElem?_cons_zero, List.getElem?_cons_succ]; rfl)) | exact tab_get (by omega) | rfl); (first | exact one3 | exact one39 | exact one22); simp only [Act.put, List.setIfInBounds_toArray, List.set_cons_zero, List.set_cons_succ]) | ((with_reducible refine wpl ?_); apply st_cell (hM := hM); rfl; (first | exact want_none rfl | exact want_some rfl rfl rfl rfl); rfl; (first | (focus (go_simp; done)) | (focus (go_simp; rfl))); (first | exact .head _ _ | exact .tail (.head _ _) | exact .tail (.tail (.head _ _)) | exact .tail (.tail (.tail (.head _ _))) | exact .tail (.tail (.tail (.tail (.head _ _))))); (first | (focus (simp; done)) | (focus (rw [tab_size]; omega))); rfl; (first | exact one3 | exact one39 | exact one22); intro w1 hM1; clear hM; (try simp only [List.setIfInBounds_toArray, List.set_cons_zero, List.set_cons_succ] at hM1); (try rw [tab_setInt] at hM1);  have hM := hM1; clear hM1; simp only [Act.put, List.setIfInBounds_toArray, List.set_cons_zero, List.set_cons_succ]))
                have hle := hSn2.le
                have hel := hE.len
                have hlT : (ents T).length = n0 := by unfold ents; rw [List.length_map, hTk.out]
                rw [List.length_append, List.length_singleton] at hle
                have hq' := hq.out
                have hkk : 1 ≤ gk := by omega
                go_roundg (gk - 1)
                case measure => omega
                case rel =>
                  refine ⟨V ++ [en], seen.push en.born, s5, hid_ (by rw [List.length_append, List.length_singleton]; omega), hSn2, ok5, hid_ (fun i => ?_), hid_ (fun i => ?_), hM⟩
                  · rw [hH5.out]
                    unfold up1
                    by_cases e : i = id
                    · subst e
                      rw [if_pos rfl, hone.out]
                      constructor
                      · intro h1; exact absurd h1 (by decide)
                      · rintro ⟨_, h1⟩
                        exact absurd hen.out.2.2.1 (h1 en (List.mem_append.2 (.inr (List.mem_singleton.2 rfl))))
                    · rw [if_neg e, hH4.out i]
                      constructor
                      · rintro ⟨h1, h2⟩
                        refine ⟨h1, fun e' he' => ?_⟩
                        rcases List.mem_append.1 he' with he' | he'
                        · exact h2 e' he'
                        · rw [List.mem_singleton.1 he', hen.out.2.2.1]
                          intro h3
                          simp only [Value.int.injEq, true_and] at h3
                          exact e (by omega)
                      · rintro ⟨h1, h2⟩
                        exact ⟨h1, fun e' he' => h2 e' (List.mem_append.2 (.inl he'))⟩
                  · rw [hH5.out]
                    unfold up1
                    by_cases e : i = id
                    · rw [if_pos e, hone.out]; exact .inl rfl
                    · rw [if_neg e]; exact hH01.out i
    · obtain rfl : r = 2 := by omega
      go_wp2_with (first | ((with_reducible refine wpl ?_); apply al_box (hM := hM); rfl; (first | exact want_none rfl | exact want_some rfl rfl rfl rfl); (first | (focus (go_simp; done)) | (focus (go_simp; rfl))); intro gb w1 hM1; clear hM; dsimp only [Value.cells] at hM1; have hM := hM1; clear hM1; simp only [Act.put, List.setIfInBounds_toArray, List.set_cons_zero, List.set_cons_succ]) | ((with_reducible refine wpl ?_); apply ld_one (hM := hM); rfl; (first | exact want_none rfl | exact want_some rfl rfl rfl rfl); rfl; (first | exact .head _ _ | exact .tail (.head _ _) | exact .tail (.tail (.head _ _)) | exact .tail (.tail (.tail (.head _ _))) | exact .tail (.tail (.tail (.tail (.head _ _))))); (first | (focus (simp only [List.getElem?_toArray, List.getElem?_cons_zero, List.getElem?_cons_succ]; rfl)) | exact tab_get (by omega) | rfl); (first | exact one3 | exact one39 | exact one22); simp only [Act.put, List.setIfInBounds_toArray, List.set_cons_zero, List.set_cons_succ]) | ((with_reducible refine wpl ?_); apply st_cell (hM := hM); rfl; (first | exact want_none rfl | exact want_some rfl rfl rfl rfl); rfl; (first | (focus (go_simp; done)) | (focus (go_simp; rfl))); (first | exact .head _ _ | exact .tail (.head _ _) | exact .tail (.tail (.head _ _)) | exact .tail (.tail (.tail (.head _ _))) | exact .tail (.tail (.tail (.tail (.head _ _))))); (first | (focus (simp; done)) | (focus (rw [tab_size]; omega))); rfl; (first | exact one3 | exact one39 | exact one22); intro w1 hM1; clear hM; (try simp only [List.setIfInBounds_toArray, List.set_cons_zero, List.set_cons_succ] at hM1); (try rw [tab_setInt] at hM1);  have hM := hM1; clear hM1; simp only [Act.put, List.setIfInBounds_toArray, List.set_cons_zero, List.set_cons_succ]))
      refine (free hM oks (n0 : Nat) (by have h1 := oks.bal; have h2 := hn.out; rw [cnt_zero hHz.out] at h1; omega)).mono ?_
      rintro e w3 ⟨rfl, hM1⟩
      clear hM
      have hM := hM1
      clear hM1
      go_wp2_with (first | ((with_reducible refine wpl ?_); apply al_box (hM := hM); rfl; (first | exact want_none rfl | exact want_some rfl rfl rfl rfl); (first | (focus (go_simp; done)) | (focus (go_simp; rfl))); intro gb w1 hM1; clear hM; dsimp only [Value.cells] at hM1; have hM := hM1; clear hM1; simp only [Act.put, List.setIfInBounds_toArray, List.set_cons_zero, List.set_cons_succ]) | ((with_reducible refine wpl ?_); apply ld_one (hM := hM); rfl; (first | exact want_none rfl | exact want_some rfl rfl rfl rfl); rfl; (first | exact .head _ _ | exact .tail (.head _ _) | exact .tail (.tail (.head _ _)) | exact .tail (.tail (.tail (.head _ _))) | exact .tail (.tail (.tail (.tail (.head _ _))))); (first | (focus (simp only [List.getElem?_toArray, List.getElem?_cons_zero, List.getElem?_cons_succ]; rfl)) | exact tab_get (by omega) | rfl); (first | exact one3 | exact one39 | exact one22); simp only [Act.put, List.setIfInBounds_toArray, List.set_cons_zero, List.set_cons_succ]) | ((with_reducible refine wpl ?_); apply st_cell (hM := hM); rfl; (first | exact want_none rfl | exact want_some rfl rfl rfl rfl); rfl; (first | (focus (go_simp; done)) | (focus (go_simp; rfl))); (first | exact .head _ _ | exact .tail (.head _ _) | exact .tail (.tail (.head _ _)) | exact .tail (.tail (.tail (.head _ _))) | exact .tail (.tail (.tail (.tail (.head _ _))))); (first | (focus (simp; done)) | (focus (rw [tab_size]; omega))); rfl; (first | exact one3 | exact one39 | exact one22); intro w1 hM1; clear hM; (try simp only [List.setIfInBounds_toArray, List.set_cons_zero, List.set_cons_succ] at hM1); (try rw [tab_setInt] at hM1);  have hM := hM1; clear hM1; simp only [Act.put, List.setIfInBounds_toArray, List.set_cons_zero, List.set_cons_succ]))
      go_ret
      exact ⟨rfl, hM.below⟩
set_option maxRecDepth 100000 in
set_option maxHeartbeats 4000000 in
theorem full_a (w : World) (n0 : Int) (b : Option Addr) (n c : Nat) (h : n0 < 0) : Calls Try.prog 3 #[.int .i64 n0, .slice b n c] w fun e w' => e = .returned (.bool true) ∧ Below w.heap.size w w' := by
  have hM := Mem.start w
  have d0 : decide (n0 < 0) = true := decide_eq_true (by omega)
  go_enter Try.func3, Try.ntmps3
  go_wp2_with (first | (go_at_call 14; (with_reducible refine (holds_mem _).mono ?_); rintro e w3 ⟨rfl, hb⟩; replace hM := hM.step hb; clear hb) | ((with_reducible refine wpl ?_); apply al_box (hM := hM); rfl; (first | exact want_none rfl | exact want_some rfl rfl rfl rfl); (first | (focus (go_simp; done)) | (focus (go_simp; rfl))); intro gb w1 hM1; clear hM; dsimp only [Value.cells] at hM1; have hM := hM1; clear hM1; simp only [Act.put, List.setIfInBounds_toArray, List.set_cons_zero, List.set_cons_succ]) | ((with_reducible refine wpl ?_); apply ld_one (hM := hM); rfl; (first | exact want_none rfl | exact want_some rfl rfl rfl rfl); rfl; (first | exact .head _ _ | exact .tail (.head _ _) | exact .tail (.tail (.head _ _)) | exact .tail (.tail (.tail (.head _ _))) | exact .tail (.tail (.tail (.tail (.head _ _))))); (first | (focus (simp only [List.getElem?_toArray, List.getElem?_cons_zero, List.getElem?_cons_succ]; rfl)) | exact tab_get (by omega) | rfl); (first | exact one3 | exact one39 | exact one22); simp only [Act.put, List.setIfInBounds_toArray, List.set_cons_zero, List.set_cons_succ]) | ((with_reducible refine wpl ?_); apply st_cell (hM := hM); rfl; (first | exact want_none rfl | exact want_some rfl rfl rfl rfl); rfl; (first | (focus (go_simp; done)) | (focus (go_simp; rfl))); (first | exact .head _ _ | exact .tail (.head _ _) | exact .tail (.tail (.head _ _)) | exact .tail (.tail (.tail (.head _ _))) | exact .tail (.tail (.tail (.tail (.head _ _))))); (first | (focus (simp; done)) | (focus (rw [tab_size]; omega))); rfl; (first | exact one3 | exact one39 | exact one22); intro w1 hM1; clear hM; (try simp only [List.setIfInBounds_toArray, List.set_cons_zero, List.set_cons_succ] at hM1); (try rw [tab_setInt] at hM1);  have hM := hM1; clear hM1; simp only [Act.put, List.setIfInBounds_toArray, List.set_cons_zero, List.set_cons_succ]))
  go_ret
  exact ⟨rfl, hM.below⟩

set_option maxRecDepth 100000 in
set_option maxHeartbeats 4000000 in
theorem full_b (w : World) (n0 : Int) (b : Option Addr) (n c : Nat) (h : 0 ≤ n0) (h2 : 50 < n0) : Calls Try.prog 3 #[.int .i64 n0, .slice b n c] w fun e w' => e = .returned (.bool true) ∧ Below w.heap.size w w' := by
  have hM := Mem.start w
  have d0 : decide (n0 < 0) = false := decide_eq_false (by omega)
  have d1 : decide (n0 > 50) = true := decide_eq_true (by omega)
  go_enter Try.func3, Try.ntmps3
  go_wp2_with (first | (go_at_call 14; (with_reducible refine (holds_mem _).mono ?_); rintro e w3 ⟨rfl, hb⟩; replace hM := hM.step hb; clear hb) | ((with_reducible refine wpl ?_); apply al_box (hM := hM); rfl; (first | exact want_none rfl | exact want_some rfl rfl rfl rfl); (first | (focus (go_simp; done)) | (focus (go_simp; rfl))); intro gb w1 hM1; clear hM; dsimp only [Value.cells] at hM1; have hM := hM1; clear hM1; simp only [Act.put, List.setIfInBounds_toArray, List.set_cons_zero, List.set_cons_succ]) | ((with_reducible refine wpl ?_); apply ld_one (hM := hM); rfl; (first | exact want_none rfl | exact want_some rfl rfl rfl rfl); rfl; (first | exact .head _ _ | exact .tail (.head _ _) | exact .tail (.tail (.head _ _)) | exact .tail (.tail (.tail (.head _ _))) | exact .tail (.tail (.tail (.tail (.head _ _))))); (first | (focus (simp only [List.getElem?_toArray, List.getElem?_cons_zero, List.getElem?_cons_succ]; rfl)) | exact tab_get (by omega) | rfl); (first | exact one3 | exact one39 | exact one22); simp only [Act.put, List.setIfInBounds_toArray, List.set_cons_zero, List.set_cons_succ]) | ((with_reducible refine wpl ?_); apply st_cell (hM := hM); rfl; (first | exact want_none rfl | exact want_some rfl rfl rfl rfl); rfl; (first | (focus (go_simp; done)) | (focus (go_simp; rfl))); (first | exact .head _ _ | exact .tail (.head _ _) | exact .tail (.tail (.head _ _)) | exact .tail (.tail (.tail (.head _ _))) | exact .tail (.tail (.tail (.tail (.head _ _))))); (first | (focus (simp; done)) | (focus (rw [tab_size]; omega))); rfl; (first | exact one3 | exact one39 | exact one22); intro w1 hM1; clear hM; (try simp only [List.setIfInBounds_toArray, List.set_cons_zero, List.set_cons_succ] at hM1); (try rw [tab_setInt] at hM1);  have hM := hM1; clear hM1; simp only [Act.put, List.setIfInBounds_toArray, List.set_cons_zero, List.set_cons_succ]))
  go_ret
  exact ⟨rfl, hM.below⟩

set_option maxRecDepth 100000 in
set_option maxHeartbeats 4000000 in
theorem full_c (w : World) (n0 : Int) (b : Option Addr) (n c : Nat) (h : 0 ≤ n0) (h2 : n0 ≤ 50) (h3 : 64 < n) : Calls Try.prog 3 #[.int .i64 n0, .slice b n c] w fun e w' => e = .returned (.bool true) ∧ Below w.heap.size w w' := by
  have hM := Mem.start w
  have d0 : decide (n0 < 0) = false := decide_eq_false (by omega)
  have d1 : decide (n0 > 50) = false := decide_eq_false (by omega)
  have d2 : decide ((n : Int) > 64) = true := decide_eq_true (by omega)
  go_enter Try.func3, Try.ntmps3
  go_wp2_with (first | (go_at_call 14; (with_reducible refine (holds_mem _).mono ?_); rintro e w3 ⟨rfl, hb⟩; replace hM := hM.step hb; clear hb) | ((with_reducible refine wpl ?_); apply al_box (hM := hM); rfl; (first | exact want_none rfl | exact want_some rfl rfl rfl rfl); (first | (focus (go_simp; done)) | (focus (go_simp; rfl))); intro gb w1 hM1; clear hM; dsimp only [Value.cells] at hM1; have hM := hM1; clear hM1; simp only [Act.put, List.setIfInBounds_toArray, List.set_cons_zero, List.set_cons_succ]) | ((with_reducible refine wpl ?_); apply ld_one (hM := hM); rfl; (first | exact want_none rfl | exact want_some rfl rfl rfl rfl); rfl; (first | exact .head _ _ | exact .tail (.head _ _) | exact .tail (.tail (.head _ _)) | exact .tail (.tail (.tail (.head _ _))) | exact .tail (.tail (.tail (.tail (.head _ _))))); (first | (focus (simp only [List.getElem?_toArray, List.getElem?_cons_zero, List.getElem?_cons_succ]; rfl)) | exact tab_get (by omega) | rfl); (first | exact one3 | exact one39 | exact one22); simp only [Act.put, List.setIfInBounds_toArray, List.set_cons_zero, List.set_cons_succ]) | ((with_reducible refine wpl ?_); apply st_cell (hM := hM); rfl; (first | exact want_none rfl | exact want_some rfl rfl rfl rfl); rfl; (first | (focus (go_simp; done)) | (focus (go_simp; rfl))); (first | exact .head _ _ | exact .tail (.head _ _) | exact .tail (.tail (.head _ _)) | exact .tail (.tail (.tail (.head _ _))) | exact .tail (.tail (.tail (.tail (.head _ _))))); (first | (focus (simp; done)) | (focus (rw [tab_size]; omega))); rfl; (first | exact one3 | exact one39 | exact one22); intro w1 hM1; clear hM; (try simp only [List.setIfInBounds_toArray, List.set_cons_zero, List.set_cons_succ] at hM1); (try rw [tab_setInt] at hM1);  have hM := hM1; clear hM1; simp only [Act.put, List.setIfInBounds_toArray, List.set_cons_zero, List.set_cons_succ]))
  go_ret
  exact ⟨rfl, hM.below⟩

theorem walk (w : World) (x : Value) (bs : List UInt8) (hB : Bytes w x bs) (n0 : Int) : Calls Try.prog 3 #[.int .i64 n0, x] w fun e w' => e = .returned (.bool true) ∧ Below w.heap.size w w' := by
  by_cases h1 : n0 < 0
  · obtain ⟨b, c, rfl⟩ := hB.len
    exact full_a w n0 b _ c h1
  by_cases h2 : 50 < n0
  · obtain ⟨b, c, rfl⟩ := hB.len
    exact full_b w n0 b _ c (by omega) h2
  by_cases h3 : 64 < bs.length
  · obtain ⟨b, c, rfl⟩ := hB.len
    exact full_c w n0 b _ c (by omega) (by omega) h3
  obtain ⟨n0, rfl⟩ := Int.eq_ofNat_of_zero_le (a := n0) (by omega)
  exact full_ok w n0 x bs hB (by omega) (by omega)
end Go.Proofs.Ytiamkbmefllljaa.Full
