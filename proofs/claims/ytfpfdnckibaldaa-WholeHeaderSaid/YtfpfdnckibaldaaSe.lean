/- A header with its sum anew. No condition but its length. -/
import Derived.Test.YtfpfdnckibaldaaFu
set_option linter.unusedSimpArgs false
set_option linter.unusedVariables false
namespace Go.Proofs.Ytfpfdnckibaldaa.H
open Go.RowKit Go.Proofs.Ytfpfdnckibaldaa.M Go.Proofs.Ytfpfdnckibaldaa.O


theorem run_sl_lhm {a : Act} {x lo hi : Operand} {g len cap : Nat} {kl kh : IntKind} {V H : Int} {oi : Oper} (w : World) (m n : Nat) (hop : oi.op = .slice 24 x (some lo) (some hi) none)
    (hx : a.eval x = .slice (some ⟨g, 0, none⟩) len cap) (hlo : a.eval lo = .int kl V) (hhi : a.eval hi = .int kh H) (hL : V = (m : Int)) (hH : H = (n : Int)) (h1 : m ≤ n) (h2 : n ≤ cap) (h3 : m < cap) :
    (execOp a.eval oi).run Try.prog w = .ok (.value (.slice (some ⟨g, m, none⟩) (n - m) (cap - m))) w := by
  have hs := size5
  cases hq : Try.prog.info? 5 with
  | none => simp [hq] at hs
  | some i =>
    have hsz : i.size = 1 := by simpa [hq] using hs
    have hne : ¬ cap = m := by omega
    have hrun : (Instr.sliceAt 24 (.slice (some ⟨g, 0, none⟩) len cap) (some (.int kl V)) (some (.int kh H)) none).run Try.prog w = .ok (.slice (some ⟨g, m, none⟩) (n - m) (cap - m)) w := by
      simp [Instr.sliceAt, Instr.slice, run_underlying und24, Instr.sliceBounds, run_bound w kh H n cap _ hH h2, run_bound w kl V m n _ hL h1, sizeOf, typeInfo, hq, hsz, hne, Addr.add_lit]
    unfold execOp
    simp only [hop, hx, hlo, hhi, Option.map_some, Option.map_none, Sem.run_bind, hrun, Result.andThen_ok]
    rfl

theorem u8_inj {a b : UInt8} (h : u8 a = u8 b) : a = b := by
  unfold u8 at h
  simp only [Value.int.injEq, true_and] at h
  exact UInt8.toNat_inj.1 (by omega)

theorem onto_row {cs' : Array Value} {D : Nat → UInt8} {n N : Nat} (h : Onto #[] cs' ((seg D 0 n).map u8) #[.int .u8 0] 0 N) : ∃ D', cs' = row N D' ∧ ∀ i, i < n → D' i = D i := by
  have each : ∀ i, i < N → ∃ b : UInt8, cs'[i]? = some (u8 b) := fun i hi => by
    have hlt : i < cs'.size := by rw [h.size]; exact hi
    rcases h.mem cs'[i] (Array.getElem_mem hlt) with h1 | h1 | h1
    · simp at h1
    · obtain ⟨b, _, hb⟩ := List.mem_map.1 h1
      exact ⟨b, by rw [Array.getElem?_eq_getElem hlt, hb]⟩
    · exact ⟨0, by rw [Array.getElem?_eq_getElem hlt]; simp at h1; rw [h1]; rfl⟩
  refine ⟨fun i => if hi : i < N then (each i hi).choose else 0, ?_, fun i hi => ?_⟩
  · refine row_ext h.size (fun i hi => ?_)
    rw [dif_pos hi]
    exact (each i hi).choose_spec
  · have hnew := h.new i (by rw [List.length_map, seg_len]; exact hi)
    rw [Nat.zero_add, List.getElem?_map, seg_get hi, Nat.zero_add] at hnew
    have hiN : i < N := by
      rcases Nat.lt_or_ge i N with h1 | h1
      · exact h1
      · rw [Array.getElem?_eq_none (by rw [h.size]; exact h1)] at hnew
        cases hnew
    show (if hi : i < N then (each i hi).choose else 0) = D i
    rw [dif_pos hiN]
    have h2 := (each i hiN).choose_spec
    replace h2 := hnew.symm.trans h2
    simp only [Option.map_some, Option.some.injEq] at h2
    exact (u8_inj h2).symm

theorem onto_field {cs' : Array Value} {n N : Nat} (h : Onto ((oct n 7).map u8).toArray cs' [.int .u8 32] #[.int .u8 0] (7 * 1) N) : ∀ (j : Nat) (b : UInt8), (oct n 7 ++ [32])[j]? = some b → cs'[j]? = some (u8 b) := by
  intro j b hj
  have hl := oct_len (n := n) (w := 7) (by omega)
  by_cases h7 : j < 7
  · rw [h.old j (by omega), List.getElem?_toArray, List.getElem?_map]
    rw [List.getElem?_append_left (by omega)] at hj
    rw [hj]; rfl
  · have h8 : j = 7 := by
      have := (List.getElem?_eq_some_iff.1 hj).1
      rw [List.length_append, List.length_singleton, hl] at this
      omega
    subst h8
    have := h.new 0 (by simp)
    rw [List.getElem?_append_right (by omega), hl] at hj
    simp at hj
    subst hj
    show cs'[7]? = some (Value.int .u8 32)
    simpa using this

theorem put_eq1 {D : Nat → UInt8} {o : Nat} {l : List UInt8} {j : Nat} : put D o l j = if o ≤ j ∧ j < o + l.length then l.getD (j - o) 0 else D j := by
  unfold put
  by_cases h1 : o ≤ j
  · rw [if_pos h1]
    by_cases h2 : j < o + l.length
    · rw [if_pos ⟨h1, h2⟩, List.getD_eq_getElem?_getD, List.getElem?_eq_getElem (by omega)]
      rfl
    · rw [if_neg (fun h => h2 h.2), List.getElem?_eq_none (by omega)]
      rfl
  · rw [if_neg h1, if_neg (fun h => h1 h.1)]

section
variable {w0 : Base} {w : World} {fr l : List Blk}
set_option maxHeartbeats 4000000 in
theorem seal_ (hM : Mem w0 w fr l) (g c : Nat) (D : Nat → UInt8) (hA : ∀ w', Mem w0 w' fr l → At w' g 0 (seg D 0 512)) (hc : 512 ≤ c) :
    Calls Try.prog 9 #[.slice (some ⟨g, 0, none⟩) 512 c] w fun e w' => ∃ (g' c' : Nat) (D' : Nat → UInt8), e = .returned (.tuple #[.slice (some ⟨g', 0, none⟩) 512 c', .int .i64 0]) ∧ 512 ≤ c' ∧ (∀ i, i < 512 → D' i = put D 148 (oct (ps D 512) 7 ++ [32]) i) ∧ Mem w0 w' fr (⟨g', row c' D', 5, (0, 0)⟩ :: l) := by
  have hps := ps_le D 512
  have hdig : dig (ps D 512) < 7 := (dig_lt (by omega)).2 (by omega)
  have hsrc : ∀ {w'}, Mem w0 w' fr l → Src Try.prog 1 24 (.slice (some ⟨g, 0, none⟩) 512 c) 512 ((seg D 0 512).map u8) w' := fun h => by
    have h1 := ((hA _ h).bytes (c := c) (by rw [seg_len]; exact hc)).src und24
    rw [seg_len] at h1
    exact h1
  have hl8 : Hid ((oct (ps D 512) 7 ++ [32]).length = 8) := hd_ (by rw [List.length_append, oct_len (by omega)]; rfl)
  go_enter Try.func9, Try.ntmps9
  go_wp2_with (first | ((with_reducible refine wpl ?_); apply al_none (hM := hM) (ht := slb); rfl; (first | exact want_none rfl | exact want_some rfl rfl rfl rfl); intro gn w1 hM1; clear hM; have hM := hM1; clear hM1; simp only [Act.put, List.setIfInBounds_toArray, List.set_cons_zero, List.set_cons_succ]) | ((with_reducible refine wpl ?_); apply ap_own (hM := hM) (ht := slb) (n := 512) (news := (seg D 0 512).map u8); rfl; (first | exact want_none rfl | exact want_some rfl rfl rfl rfl); rfl; rfl; (first | exact .head _ _ | exact .tail (.head _ _)); rfl; omega; exact hsrc hM.tail; omega; omega; intro g1 cap1 cs1 w1 hM1 hon hcap hsame; clear hM hsame; rw [Nat.zero_mul, Nat.mul_one] at hon; rw [Nat.zero_add] at hcap ⊢; have hM := hM1; clear hM1; simp only [Act.put, List.setIfInBounds_toArray, List.set_cons_zero, List.set_cons_succ]))
  obtain ⟨D1, rfl, hD1⟩ := onto_row hon
  clear hon
  replace hD1 := hd_ hD1
  obtain ⟨go, rfl⟩ : ∃ go : Nat, go = g1 := ⟨_, rfl⟩
  have hpl := plain_ w1 g 0 512 c D (hA _ hM.tail) (by omega)
  obtain ⟨p, hp⟩ : ∃ p : Nat, Hid (ps D 512 = p) := ⟨_, hd_ rfl⟩
  rw [hp.out] at hpl
  go_wp2_with (first | (go_at_call 13; (with_reducible refine hpl.mono ?_); rintro e w3 ⟨rfl, hw4⟩; subst hw4))
  refine (format_ok hM (ps D 512) 7 (by omega) (by omega) (by omega) hdig (by rw [hp.out]) rfl).mono ?_
  rintro e w4 ⟨gf, rfl, hM1⟩
  clear hM hpl
  have hM := hM1
  clear hM1
  go_wp2
  refine reg_begin (fun _ => True) (by kernel_rfl) hM (fun wd hMd => ?_)
  clear hM
  have hM := hMd
  clear hMd
  have hS : True := trivial
  refine reg_free 0 (v := .slice (some ⟨go, 0, none⟩) 512 cap1) rfl (by kernel_rfl) (by kernel_rfl) (by kernel_rfl) (fun _ _ _ h => h) (by (first | exact want_none rfl | exact want_some rfl rfl rfl rfl)) (fun w => by go_simp) hS ?_
  simp only [Act.put, List.setIfInBounds_toArray, List.set_cons_zero, List.set_cons_succ]
  refine reg_free 1 (v := .slice (some ⟨go, 148, none⟩) (156 - 148) (cap1 - 148)) rfl (by kernel_rfl) (by kernel_rfl) (by kernel_rfl) (fun _ _ _ h => h) (by (first | exact want_none rfl | exact want_some rfl rfl rfl rfl)) (fun w => by exact run_sl_lhm w 148 156 rfl rfl rfl rfl rfl rfl (by omega) (by omega) (by omega)) hS ?_
  simp only [Act.put, List.setIfInBounds_toArray, List.set_cons_zero, List.set_cons_succ]
  refine reg_free 2 (v := .slice (some ⟨gf, 0, none⟩) 7 7) rfl (by kernel_rfl) (by kernel_rfl) (by kernel_rfl) (fun _ _ _ h => h) (by (first | exact want_none rfl | exact want_some rfl rfl rfl rfl)) (fun w => by go_simp) hS ?_
  simp only [Act.put, List.setIfInBounds_toArray, List.set_cons_zero, List.set_cons_succ]
  refine reg_step 3 (by kernel_rfl) rfl ?_
  apply al_one (hM := hM) (v := .int .u8 32) (ht := slb); rfl; (first | exact want_none rfl | exact want_some rfl rfl rfl rfl); rfl; rfl
  intro gq w5 hM1
  clear hM
  have hM := hM1
  clear hM1
  refine ⟨trivial, ?_⟩
  simp only [Act.put, List.setIfInBounds_toArray, List.set_cons_zero, List.set_cons_succ]
  refine reg_step 4 (by kernel_rfl) rfl ?_
  apply ap_own (hM := hM) (ht := slb) (n := 1) (k := 7) (cap := 7) (news := [.int .u8 32]); rfl; (first | exact want_none rfl | exact want_some rfl rfl rfl rfl); rfl; rfl; (first | exact .head _ _ | exact .tail (.head _ _) | exact .tail (.tail (.head _ _)) | exact .tail (.tail (.tail (.head _ _)))); (simp [oct_len]); omega; exact hM.src1 (.head _ _) rfl und24; omega; omega
  intro g2 cap2 cs2 w6 hM1 hon2 hcap2 hsame2
  clear hM
  have hM := hM1
  clear hM1
  clear hsame2
  refine ⟨trivial, ?_⟩
  simp only [Act.put, List.setIfInBounds_toArray, List.set_cons_zero, List.set_cons_succ]
  refine reg_step 5 (by kernel_rfl) rfl ?_
  have hB8 : Bytes w6 (.slice (some ⟨g2, 0, none⟩) (oct (ps D 512) 7 ++ [32]).length cap2) (oct (ps D 512) 7 ++ [32]) := hM.bytes (.head _ _) rfl (by rw [List.length_append, oct_len (by omega)]; exact hcap2) (fun j b hj => by rw [Nat.zero_add]; exact onto_field hon2 j b hj)
  rw [hl8.out] at hB8
  apply cp_own (hM := hM) (bs := oct (ps D 512) 7 ++ [32]); rfl; (first | exact want_none rfl | exact want_some rfl rfl rfl rfl); exact und24; exact size5; rfl; (first | exact .head _ _ | exact .tail (.head _ _) | exact .tail (.tail (.head _ _)) | exact .tail (.tail (.tail (.head _ _))) | exact .tail (.tail (.tail (.tail (.head _ _))))); exact hB8; (rw [hl8.out]; exact Nat.le_refl _); (rw [hl8.out, row_size]; omega)
  intro w7 hM1
  rw [row_lay (by rw [hl8.out]; omega)] at hM1
  clear hM
  have hM := hM1
  clear hM1
  refine ⟨trivial, ?_⟩
  simp only [Act.put, List.setIfInBounds_toArray, List.set_cons_zero, List.set_cons_succ]
  refine reg_done (by kernel_rfl) ?_
  go_wp2
  go_ret2
  refine ⟨go, cap1, _, rfl, hcap, fun i hi => ?_, ((hM.perm (List.Perm.swap _ _ _)).tail.perm (List.Perm.swap _ _ _)).tail⟩
  have h1 : D1 i = D i := hD1.out i hi
  rw [put_eq1, put_eq1, h1]

end
end Go.Proofs.Ytfpfdnckibaldaa.H
