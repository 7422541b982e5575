/- A header out of bytes that bear their sum and the standard's mark. No condition. -/
import Derived.Test.YtfpfdnckibaldaaEn
import Derived.Deep.CutBlock
set_option linter.unusedSimpArgs false
set_option linter.unusedVariables false
namespace Go.Proofs.Ytfpfdnckibaldaa.H
open Go.RowKit Go.Proofs.Ytfpfdnckibaldaa.M Go.Proofs.Ytfpfdnckibaldaa.O


theorem row23 : RowTy Try.prog 23 12 := .of (by kernel_rfl)
theorem row46 : RowTy Try.prog 46 3 := .of (by kernel_rfl)
theorem one45 : OneTy Try.prog 45 := .of (by kernel_rfl)
theorem zero23 : zeroIs Try.prog 23 (.agg #[.int .i64 0, .string ⟨#[]⟩, .string ⟨#[]⟩, .string ⟨#[]⟩, .string ⟨#[]⟩, .string ⟨#[]⟩, .int .u8 0, .int .i64 0, .int .i64 0, .int .i64 0, .int .i64 0, .int .i64 0]) := by unfold zeroIs; kernel_rfl
theorem zero46 : zeroIs Try.prog 46 (.agg #[.pointer none, .int .i64 0, .int .i64 0]) := by unfold zeroIs; kernel_rfl
theorem sl47 : SlTy Try.prog 47 46 3 24 (.agg #[.pointer none, .int .i64 0, .int .i64 0]) := ⟨by kernel_rfl, by kernel_rfl⟩
theorem cf16 : ∀ (vs : Array Value) (w : World), (callFunc 16 vs).run Try.prog w = .ok (.enter 16 vs) w := fun vs w => by kernel_rfl
theorem byte_at {w : World} {g i : Nat} {D : Nat → UInt8} (hA : At w g 0 (seg D 0 512)) (hi : i < 512) : w.cell? ⟨g, i, none⟩ = some (.int .u8 ((D i).toNat : Int)) := by
  have h := hA i (D i) (by rw [seg_get hi, Nat.zero_add])
  rw [Nat.zero_add] at h
  exact h
theorem ptrs_at {gh j : Nat} (hj : j < 5) : ∀ q v, [Value.pointer (some ⟨gh, 7 + j, none⟩), .int .i64 (no j : Nat), .int .i64 ((no j : Int) + nw j)][q]? = some v → (#[.pointer (some ⟨gh, 7, none⟩), .int .i64 100, .int .i64 108, .pointer (some ⟨gh, 8, none⟩), .int .i64 108, .int .i64 116, .pointer (some ⟨gh, 9, none⟩), .int .i64 116, .int .i64 124, .pointer (some ⟨gh, 10, none⟩), .int .i64 124, .int .i64 136, .pointer (some ⟨gh, 11, none⟩), .int .i64 136, .int .i64 148] : Array Value)[j * 3 + q]? = some v := by
  match j, hj with
  | 0, _ => intro q v h; match q, h with | 0, h => exact h | 1, h => exact h | 2, h => exact h
  | 1, _ => intro q v h; match q, h with | 0, h => exact h | 1, h => exact h | 2, h => exact h
  | 2, _ => intro q v h; match q, h with | 0, h => exact h | 1, h => exact h | 2, h => exact h
  | 3, _ => intro q v h; match q, h with | 0, h => exact h | 1, h => exact h | 2, h => exact h
  | 4, _ => intro q v h; match q, h with | 0, h => exact h | 1, h => exact h | 2, h => exact h
theorem set_num {tn tk : List UInt8} {ty : UInt8} {m : Nat → Int} {n : Int} {j : Nat} (hj : j < 5) : (#[.int .i64 0, .string ⟨tn.toArray⟩, .string ⟨tk.toArray⟩, .string ⟨#[]⟩, .string ⟨#[]⟩, .string ⟨#[]⟩, .int .u8 (ty.toNat : Int), .int .i64 (m 0), .int .i64 (m 1), .int .i64 (m 2), .int .i64 (m 3), .int .i64 (m 4)] : Array Value).setIfInBounds (7 + j) (.int .i64 n) = #[.int .i64 0, .string ⟨tn.toArray⟩, .string ⟨tk.toArray⟩, .string ⟨#[]⟩, .string ⟨#[]⟩, .string ⟨#[]⟩, .int .u8 (ty.toNat : Int), .int .i64 (up1 m j n 0), .int .i64 (up1 m j n 1), .int .i64 (up1 m j n 2), .int .i64 (up1 m j n 3), .int .i64 (up1 m j n 4)] := by
  match j, hj with
  | 0, _ => rfl
  | 1, _ => rfl
  | 2, _ => rfl
  | 3, _ => rfl
  | 4, _ => rfl
theorem swap4 {w0 : Base} {w : World} {fr r : List Blk} {h z p : Blk} (hM : Mem w0 w fr (h :: z :: p :: r)) : Mem w0 w fr (p :: h :: r) :=
  ((hM.perm (List.perm_middle (a := h) (l₁ := [z, p]) (l₂ := r)).symm).tail)
theorem mag_bytes {w : World} {g c : Nat} {D : Nat → UInt8} (hA : At w g 0 (seg D 0 512)) (hm : seg D 257 8 = mag) (hc : 512 ≤ c) : Bytes w (.slice (some ⟨g, 257, none⟩) (265 - 257) (c - 257)) [117, 115, 116, 97, 114, 0, 48, 48] := by
  have h := (at_part (o := 257) (k := 8) hA (by omega)).bytes (c := c - 257) (by rw [seg_len]; omega)
  rw [hm] at h
  exact h
/-- A header's cells. -/
def hcells (h : Hd) : Array Value := #[.int .i64 h.fm, .string ⟨h.nm.toArray⟩, .string ⟨h.lk.toArray⟩, .string ⟨h.pr.toArray⟩, .string ⟨h.us.toArray⟩, .string ⟨h.gr.toArray⟩, .int .u8 (h.ty.toNat : Int), .int .i64 h.md, .int .i64 h.ud, .int .i64 h.gd, .int .i64 h.sz, .int .i64 h.mt]
section
variable {w0 : Base} {w : World} {fr l : List Blk}
set_option maxRecDepth 100000 in
set_option maxHeartbeats 4000000 in
theorem decode_ (hM : Mem w0 w fr l) (g c : Nat) (D : Nat → UInt8) (hA : ∀ w', Mem w0 w' fr l → At w' g 0 (seg D 0 512)) (hc : 512 ≤ c) (hsum : Oct (seg D 148 8) (ps D 512)) (hmag : seg D 257 8 = mag) :
    Calls Try.prog 7 #[.slice (some ⟨g, 0, none⟩) 512 c] w fun e w' => ∃ (h : Hd) (k : Int), e = .returned (.tuple #[.agg (hcells h), .int .i64 k]) ∧ Mem w0 w' fr l ∧
      ∀ v : Nat → Nat, (∀ i, i < 5 → Oct (seg D (no i) (nw i)) (v i)) → k = 0 ∧ h = ⟨1, txt (seg D 0 100), txt (seg D 157 100), txt (seg D 345 155), txt (seg D 265 32), txt (seg D 297 32), D 156, v 0, v 1, v 2, v 3, v 4⟩ := by
  replace hA := hd_ hA
  replace hsum := hd_ hsum
  replace hmag := hd_ hmag
  go_enter Try.func7, Try.ntmps7
  go_upto_region 5 with (first | ((with_reducible refine wpl ?_); apply al_zero (hM := hM) (hz := zero23); rfl; (first | exact want_none rfl | exact want_some rfl rfl rfl rfl); intro gr_ w1 hM1; clear hM; dsimp only [Value.cells] at hM1; have hM := hM1; clear hM1; simp only [Act.put, List.setIfInBounds_toArray, List.set_cons_zero, List.set_cons_succ]) | (go_at_call 5; (with_reducible refine (right_ _ g c D (hA.out _ hM.tail) hc hsum.out).mono ?_); rintro e w3 ⟨rfl, hw3⟩; subst hw3))
  go_cut [4] from 19 to 28 (fun x4 wx => ∃ gh, x4 = .pointer (some ⟨gh, 0, none⟩) ∧ Mem w0 wx fr (⟨gh, #[.int .i64 0, .string ⟨(txt (seg D 0 100)).toArray⟩, .string ⟨(txt (seg D 157 100)).toArray⟩, .string ⟨#[]⟩, .string ⟨#[]⟩, .string ⟨#[]⟩, .int .u8 ((D 156).toNat : Int), .int .i64 0, .int .i64 0, .int .i64 0, .int .i64 0, .int .i64 0], 23, (0, 0)⟩ :: ⟨gr_, #[.int .i64 0, .string ⟨#[]⟩, .string ⟨#[]⟩, .string ⟨#[]⟩, .string ⟨#[]⟩, .string ⟨#[]⟩, .int .u8 0, .int .i64 0, .int .i64 0, .int .i64 0, .int .i64 0, .int .i64 0], 23, (0, 0)⟩ :: l))
  case first =>
    refine reg_begin (fun w' => Mem w0 w' fr l) (by kernel_rfl) hM (fun wd hMd => ?_)
    clear hM
    have hM := hMd
    clear hMd
    have hS := hM.tail
    refine reg_free 0 (v := .slice (some ⟨g, 0, none⟩) 512 c) rfl (by kernel_rfl) (by kernel_rfl) (by kernel_rfl) (fun _ _ _ h => h) (by (first | exact want_none rfl | exact want_some rfl rfl rfl rfl)) (fun w => by go_simp) hS ?_
    simp only [Act.put, List.setIfInBounds_toArray, List.set_cons_zero, List.set_cons_succ]
    refine reg_free 1 (v := .slice (some ⟨g, 0, none⟩) (100 - 0) (c - 0)) rfl (by kernel_rfl) (by kernel_rfl) (by kernel_rfl) (fun _ _ _ h => h) (by (first | exact want_none rfl | exact want_some rfl rfl rfl rfl)) (fun w => by exact run_sl_lhm w 0 100 rfl rfl rfl rfl rfl rfl (by omega) (by omega) (by omega)) hS ?_
    simp only [Act.put, List.setIfInBounds_toArray, List.set_cons_zero, List.set_cons_succ]
    refine reg_free 3 (v := .slice (some ⟨g, 0, none⟩) 512 c) rfl (by kernel_rfl) (by kernel_rfl) (by kernel_rfl) (fun _ _ _ h => h) (by (first | exact want_none rfl | exact want_some rfl rfl rfl rfl)) (fun w => by go_simp) hS ?_
    simp only [Act.put, List.setIfInBounds_toArray, List.set_cons_zero, List.set_cons_succ]
    refine reg_free 4 (v := .slice (some ⟨g, 157, none⟩) (257 - 157) (c - 157)) rfl (by kernel_rfl) (by kernel_rfl) (by kernel_rfl) (fun _ _ _ h => h) (by (first | exact want_none rfl | exact want_some rfl rfl rfl rfl)) (fun w => by exact run_sl_lhm w 157 257 rfl rfl rfl rfl rfl rfl (by omega) (by omega) (by omega)) hS ?_
    simp only [Act.put, List.setIfInBounds_toArray, List.set_cons_zero, List.set_cons_succ]
    refine reg_free 6 (v := .slice (some ⟨g, 0, none⟩) 512 c) rfl (by kernel_rfl) (by kernel_rfl) (by kernel_rfl) (fun _ _ _ h => h) (by (first | exact want_none rfl | exact want_some rfl rfl rfl rfl)) (fun w => by go_simp) hS ?_
    simp only [Act.put, List.setIfInBounds_toArray, List.set_cons_zero, List.set_cons_succ]
    refine reg_free 7 (v := .pointer (some ⟨g, 156, none⟩)) rfl (by kernel_rfl) (by kernel_rfl) (by kernel_rfl) (fun _ _ _ h => h) (by (first | exact want_none rfl | exact want_some rfl rfl rfl rfl)) (fun w => by go_simp) hS ?_
    simp only [Act.put, List.setIfInBounds_toArray, List.set_cons_zero, List.set_cons_succ]
    refine rg_one 8 (v := .int .u8 ((D 156).toNat : Int)) rfl (by kernel_rfl) (by kernel_rfl) (by kernel_rfl) (fun _ _ _ h => h) (by (first | exact want_none rfl | exact want_some rfl rfl rfl rfl)) rfl rfl (fun w' h' => byte_at (hA.out _ h') (by omega)) one5 hS ?_
    simp only [Act.put, List.setIfInBounds_toArray, List.set_cons_zero, List.set_cons_succ]
    refine reg_two 2 10 (by kernel_rfl) rfl rfl ?_ ?_
    · as_aux_lemma =>
        refine call_fn rfl (by (first | exact want_none rfl | exact want_some rfl rfl rfl rfl)) cf16 (text_ _ g 0 (c - 0) 100 (seg D 0 100) (seg_len _ _ _) (at_part (hA.out _ hS) (by omega)) (by omega) (by omega)) (by simp only [List.map_toArray, List.map_cons, List.map_nil]; rfl) ?_
        rintro e w7 ⟨rfl, hb7⟩
        replace hM := hM.step hb7
        replace hS := hS.step hb7
        clear hb7
        refine ⟨_, rfl, ?_⟩
        refine ⟨hS, ?_⟩
        simp only [Act.put, List.setIfInBounds_toArray, List.set_cons_zero, List.set_cons_succ]
        refine reg_two 5 10 (by kernel_rfl) rfl rfl ?_ ?_
        · as_aux_lemma =>
            refine call_fn rfl (by (first | exact want_none rfl | exact want_some rfl rfl rfl rfl)) cf16 (text_ _ g 157 (c - 157) 100 (seg D 157 100) (seg_len _ _ _) (at_part (hA.out _ hS) (by omega)) (by omega) (by omega)) (by simp only [List.map_toArray, List.map_cons, List.map_nil]; rfl) ?_
            rintro e w7 ⟨rfl, hb7⟩
            replace hM := hM.step hb7
            replace hS := hS.step hb7
            clear hb7
            refine ⟨_, rfl, ?_⟩
            refine ⟨hS, ?_⟩
            simp only [Act.put, List.setIfInBounds_toArray, List.set_cons_zero, List.set_cons_succ]
            refine reg_free 9 (v := .agg #[.int .i64 0, .string ⟨(txt (seg D 0 100)).toArray⟩, .string ⟨(txt (seg D 157 100)).toArray⟩, .string ⟨#[]⟩, .string ⟨#[]⟩, .string ⟨#[]⟩, .int .u8 ((D 156).toNat : Int), .int .i64 0, .int .i64 0, .int .i64 0, .int .i64 0, .int .i64 0]) rfl (by kernel_rfl) (by kernel_rfl) (by kernel_rfl) (fun _ _ _ h => h) (by (first | exact want_none rfl | exact want_some rfl rfl rfl rfl)) (fun w => by go_simp) hS ?_
            simp only [Act.put, List.setIfInBounds_toArray, List.set_cons_zero, List.set_cons_succ]
            refine reg_step 10 (by kernel_rfl) rfl ?_
            apply al_zero (hM := hM); rfl; (first | exact want_none rfl | exact want_some rfl rfl rfl rfl); exact zero23
            intro gh w5 hM1
            clear hM
            dsimp only [Value.cells] at hM1
            have hM := hM1
            clear hM1
            clear hS
            have hS := hM.tail.tail
            refine ⟨hS, ?_⟩
            simp only [Act.put, List.setIfInBounds_toArray, List.set_cons_zero, List.set_cons_succ]
            refine reg_step 11 (by kernel_rfl) rfl ?_
            apply st_row (hM := hM); rfl; (first | exact want_none rfl | exact want_some rfl rfl rfl rfl); rfl; (first | (focus (go_simp; done)) | (focus (go_simp; rfl))); (first | exact .head _ _ | exact .tail (.head _ _)); rfl; rfl; exact row23
            intro w6 hM1
            clear hM
            have hM := hM1
            clear hM1
            clear hS
            have hS := hM.tail.tail
            refine ⟨hS, ?_⟩
            simp only [Act.put, List.setIfInBounds_toArray, List.set_cons_zero, List.set_cons_succ]
            refine reg_done (by kernel_rfl) ?_
            clear hS
            go_wp2
            go_meet
            case rel => exact ⟨gh, rfl, hM⟩
        · as_aux_lemma =>
            apply al_zero (hM := hM); rfl; (first | exact want_none rfl | exact want_some rfl rfl rfl rfl); exact zero23
            intro gh w5 hM1
            clear hM
            dsimp only [Value.cells] at hM1
            have hM := hM1
            clear hM1
            clear hS
            have hS := hM.tail.tail
            refine ⟨hS, ?_⟩
            simp only [Act.put, List.setIfInBounds_toArray, List.set_cons_zero, List.set_cons_succ]
            refine reg_step 5 (by kernel_rfl) rfl ?_
            refine call_fn rfl (by (first | exact want_none rfl | exact want_some rfl rfl rfl rfl)) cf16 (text_ _ g 157 (c - 157) 100 (seg D 157 100) (seg_len _ _ _) (at_part (hA.out _ hS) (by omega)) (by omega) (by omega)) (by simp only [List.map_toArray, List.map_cons, List.map_nil]; rfl) ?_
            rintro e w7 ⟨rfl, hb7⟩
            replace hM := hM.step hb7
            replace hS := hS.step hb7
            clear hb7
            refine ⟨_, rfl, ?_⟩
            refine ⟨hS, ?_⟩
            simp only [Act.put, List.setIfInBounds_toArray, List.set_cons_zero, List.set_cons_succ]
            refine reg_free 9 (v := .agg #[.int .i64 0, .string ⟨(txt (seg D 0 100)).toArray⟩, .string ⟨(txt (seg D 157 100)).toArray⟩, .string ⟨#[]⟩, .string ⟨#[]⟩, .string ⟨#[]⟩, .int .u8 ((D 156).toNat : Int), .int .i64 0, .int .i64 0, .int .i64 0, .int .i64 0, .int .i64 0]) rfl (by kernel_rfl) (by kernel_rfl) (by kernel_rfl) (fun _ _ _ h => h) (by (first | exact want_none rfl | exact want_some rfl rfl rfl rfl)) (fun w => by go_simp) hS ?_
            simp only [Act.put, List.setIfInBounds_toArray, List.set_cons_zero, List.set_cons_succ]
            refine reg_step 11 (by kernel_rfl) rfl ?_
            apply st_row (hM := hM); rfl; (first | exact want_none rfl | exact want_some rfl rfl rfl rfl); rfl; (first | (focus (go_simp; done)) | (focus (go_simp; rfl))); (first | exact .head _ _ | exact .tail (.head _ _)); rfl; rfl; exact row23
            intro w6 hM1
            clear hM
            have hM := hM1
            clear hM1
            clear hS
            have hS := hM.tail.tail
            refine ⟨hS, ?_⟩
            simp only [Act.put, List.setIfInBounds_toArray, List.set_cons_zero, List.set_cons_succ]
            refine reg_done (by kernel_rfl) ?_
            clear hS
            go_wp2
            go_meet
            case rel => exact ⟨gh, rfl, hM⟩
    · as_aux_lemma =>
        apply al_zero (hM := hM); rfl; (first | exact want_none rfl | exact want_some rfl rfl rfl rfl); exact zero23
        intro gh w5 hM1
        clear hM
        dsimp only [Value.cells] at hM1
        have hM := hM1
        clear hM1
        clear hS
        have hS := hM.tail.tail
        refine ⟨hS, ?_⟩
        simp only [Act.put, List.setIfInBounds_toArray, List.set_cons_zero, List.set_cons_succ]
        refine reg_step 2 (by kernel_rfl) rfl ?_
        refine call_fn rfl (by (first | exact want_none rfl | exact want_some rfl rfl rfl rfl)) cf16 (text_ _ g 0 (c - 0) 100 (seg D 0 100) (seg_len _ _ _) (at_part (hA.out _ hS) (by omega)) (by omega) (by omega)) (by simp only [List.map_toArray, List.map_cons, List.map_nil]; rfl) ?_
        rintro e w7 ⟨rfl, hb7⟩
        replace hM := hM.step hb7
        replace hS := hS.step hb7
        clear hb7
        refine ⟨_, rfl, ?_⟩
        refine ⟨hS, ?_⟩
        simp only [Act.put, List.setIfInBounds_toArray, List.set_cons_zero, List.set_cons_succ]
        refine reg_step 5 (by kernel_rfl) rfl ?_
        refine call_fn rfl (by (first | exact want_none rfl | exact want_some rfl rfl rfl rfl)) cf16 (text_ _ g 157 (c - 157) 100 (seg D 157 100) (seg_len _ _ _) (at_part (hA.out _ hS) (by omega)) (by omega) (by omega)) (by simp only [List.map_toArray, List.map_cons, List.map_nil]; rfl) ?_
        rintro e w7 ⟨rfl, hb7⟩
        replace hM := hM.step hb7
        replace hS := hS.step hb7
        clear hb7
        refine ⟨_, rfl, ?_⟩
        refine ⟨hS, ?_⟩
        simp only [Act.put, List.setIfInBounds_toArray, List.set_cons_zero, List.set_cons_succ]
        refine reg_free 9 (v := .agg #[.int .i64 0, .string ⟨(txt (seg D 0 100)).toArray⟩, .string ⟨(txt (seg D 157 100)).toArray⟩, .string ⟨#[]⟩, .string ⟨#[]⟩, .string ⟨#[]⟩, .int .u8 ((D 156).toNat : Int), .int .i64 0, .int .i64 0, .int .i64 0, .int .i64 0, .int .i64 0]) rfl (by kernel_rfl) (by kernel_rfl) (by kernel_rfl) (fun _ _ _ h => h) (by (first | exact want_none rfl | exact want_some rfl rfl rfl rfl)) (fun w => by go_simp) hS ?_
        simp only [Act.put, List.setIfInBounds_toArray, List.set_cons_zero, List.set_cons_succ]
        refine reg_step 11 (by kernel_rfl) rfl ?_
        apply st_row (hM := hM); rfl; (first | exact want_none rfl | exact want_some rfl rfl rfl rfl); rfl; (first | (focus (go_simp; done)) | (focus (go_simp; rfl))); (first | exact .head _ _ | exact .tail (.head _ _)); rfl; rfl; exact row23
        intro w6 hM1
        clear hM
        have hM := hM1
        clear hM1
        clear hS
        have hS := hM.tail.tail
        refine ⟨hS, ?_⟩
        simp only [Act.put, List.setIfInBounds_toArray, List.set_cons_zero, List.set_cons_succ]
        refine reg_done (by kernel_rfl) ?_
        clear hS
        go_wp2
        go_meet
        case rel => exact ⟨gh, rfl, hM⟩
  case rest =>
    obtain ⟨gh, rfl, hM1⟩ := hcut
    clear hM
    have hM := hM1
    clear hM1
    obtain ⟨tn, htn⟩ : ∃ t, Hid (t = txt (seg D 0 100)) := ⟨_, hd_ rfl⟩
    obtain ⟨tk, htk⟩ : ∃ t, Hid (t = txt (seg D 157 100)) := ⟨_, hd_ rfl⟩
    obtain ⟨ty, hty⟩ : ∃ t, Hid (t = D 156) := ⟨_, hd_ rfl⟩
    rw [← htn.out, ← htk.out, ← hty.out] at hM
    go_wp2_with (first | ((with_reducible refine wpl ?_); apply al_slice (hM := hM) (ht := sl47) (cells := #[.pointer (some ⟨gh, 7, none⟩), .int .i64 100, .int .i64 108, .pointer (some ⟨gh, 8, none⟩), .int .i64 108, .int .i64 116, .pointer (some ⟨gh, 9, none⟩), .int .i64 116, .int .i64 124, .pointer (some ⟨gh, 10, none⟩), .int .i64 124, .int .i64 136, .pointer (some ⟨gh, 11, none⟩), .int .i64 136, .int .i64 148]); rfl; (first | exact want_none rfl | exact want_some rfl rfl rfl rfl); decide; (first | kernel_rfl | rfl | (focus (simp [Instr.fill, Value.cells, Array.range_succ, Array.range_zero']; done))); intro gP w1 hM1; clear hM; have hM := hM1; clear hM1; simp only [Act.put, List.setIfInBounds_toArray, List.set_cons_zero, List.set_cons_succ]) | ((with_reducible refine wpl ?_); apply al_box (hM := hM); rfl; (first | exact want_none rfl | exact want_some rfl rfl rfl rfl); (first | (focus (go_simp; done)) | (focus (go_simp; rfl))); intro gb w1 hM1; clear hM; dsimp only [Value.cells] at hM1; have hM := hM1; clear hM1; simp only [Act.put, List.setIfInBounds_toArray, List.set_cons_zero, List.set_cons_succ]) | ((with_reducible refine wpl ?_); apply al_zero (hM := hM); rfl; (first | exact want_none rfl | exact want_some rfl rfl rfl rfl); (first | exact zero23 | exact zero46); intro gz w1 hM1; clear hM; dsimp only [Value.cells] at hM1; have hM := hM1; clear hM1; simp only [Act.put, List.setIfInBounds_toArray, List.set_cons_zero, List.set_cons_succ]) | ((with_reducible refine wpl ?_); apply ld_row (hM := hM); rfl; (first | exact want_none rfl | exact want_some rfl rfl rfl rfl); rfl; (first | exact .head _ _ | exact .tail (.head _ _) | exact .tail (.tail (.head _ _)) | exact .tail (.tail (.tail (.head _ _))) | exact .tail (.tail (.tail (.tail (.head _ _)))) | exact .tail (.tail (.tail (.tail (.tail (.head _ _)))))); (first | exact row23 | exact row46); simp only [Act.put, List.setIfInBounds_toArray, List.set_cons_zero, List.set_cons_succ]) | ((with_reducible refine wpl ?_); apply st_row (hM := hM); rfl; (first | exact want_none rfl | exact want_some rfl rfl rfl rfl); rfl; (first | (focus (go_simp; done)) | (focus (go_simp; rfl))); (first | exact .head _ _ | exact .tail (.head _ _) | exact .tail (.tail (.head _ _)) | exact .tail (.tail (.tail (.head _ _))) | exact .tail (.tail (.tail (.tail (.head _ _)))) | exact .tail (.tail (.tail (.tail (.tail (.head _ _)))))); rfl; rfl; (first | exact row23 | exact row46); intro w1 hM1; clear hM; (try simp only [List.setIfInBounds_toArray, List.set_cons_zero, List.set_cons_succ] at hM1);  have hM := hM1; clear hM1; simp only [Act.put, List.setIfInBounds_toArray, List.set_cons_zero, List.set_cons_succ]) | ((with_reducible refine wpl ?_); apply ld_one (hM := hM); rfl; (first | exact want_none rfl | exact want_some rfl rfl rfl rfl); rfl; (first | exact .head _ _ | exact .tail (.head _ _) | exact .tail (.tail (.head _ _)) | exact .tail (.tail (.tail (.head _ _))) | exact .tail (.tail (.tail (.tail (.head _ _)))) | exact .tail (.tail (.tail (.tail (.tail (.head _ _)))))); (first | (focus (simp only [List.getElem?_toArray, List.getElem?_cons_zero, List.getElem?_cons_succ]; rfl)) | rfl); (first | exact one9 | exact one3 | exact one2 | exact one5 | exact one45); simp only [Act.put, List.setIfInBounds_toArray, List.set_cons_zero, List.set_cons_succ]) | ((with_reducible refine wpl ?_); apply st_cell (hM := hM); rfl; (first | exact want_none rfl | exact want_some rfl rfl rfl rfl); rfl; (first | (focus (go_simp; done)) | (focus (go_simp; rfl))); (first | exact .head _ _ | exact .tail (.head _ _) | exact .tail (.tail (.head _ _)) | exact .tail (.tail (.tail (.head _ _))) | exact .tail (.tail (.tail (.tail (.head _ _)))) | exact .tail (.tail (.tail (.tail (.tail (.head _ _)))))); (first | (focus (simp; done)) | (focus (rw [tab_size]; omega))); rfl; (first | exact one9 | exact one3 | exact one2 | exact one5 | exact one45); intro w1 hM1; clear hM; (try simp only [List.setIfInBounds_toArray, List.set_cons_zero, List.set_cons_succ] at hM1);  have hM := hM1; clear hM1; simp only [Act.put, List.setIfInBounds_toArray, List.set_cons_zero, List.set_cons_succ]))
    go_loopw [41] (fun x41 wr => ∃ (j : Nat) (m : Nat → Int), j ≤ 5 ∧ x41 = .int .i64 j ∧ Hid (∀ v : Nat → Nat, (∀ i, i < 5 → Oct (seg D (no i) (nw i)) (v i)) → ∀ i, i < j → m i = (v i : Int)) ∧ Mem w0 wr fr (⟨gP, #[.pointer (some ⟨gh, 7, none⟩), .int .i64 100, .int .i64 108, .pointer (some ⟨gh, 8, none⟩), .int .i64 108, .int .i64 116, .pointer (some ⟨gh, 9, none⟩), .int .i64 116, .int .i64 124, .pointer (some ⟨gh, 10, none⟩), .int .i64 124, .int .i64 136, .pointer (some ⟨gh, 11, none⟩), .int .i64 136, .int .i64 148], 46, (0, 0)⟩ :: ⟨gh, #[.int .i64 0, .string ⟨tn.toArray⟩, .string ⟨tk.toArray⟩, .string ⟨#[]⟩, .string ⟨#[]⟩, .string ⟨#[]⟩, .int .u8 (ty.toNat : Int), .int .i64 (m 0), .int .i64 (m 1), .int .i64 (m 2), .int .i64 (m 3), .int .i64 (m 4)], 23, (0, 0)⟩ :: ⟨gr_, #[.int .i64 0, .string ⟨#[]⟩, .string ⟨#[]⟩, .string ⟨#[]⟩, .string ⟨#[]⟩, .string ⟨#[]⟩, .int .u8 0, .int .i64 0, .int .i64 0, .int .i64 0, .int .i64 0, .int .i64 0], 23, (0, 0)⟩ :: l)) (fun x41 _ => 5 - (intOf x41).toNat)
    case atStart => exact ⟨0, fun _ => 0, by omega, by go_num, hd_ (fun v _ i h => absurd h (Nat.not_lt_zero _)), hM⟩
    case round =>
      obtain ⟨j, m, hj, rfl, hmv, hMr⟩ := hrel
      clear hM
      have hM := hMr
      clear hMr
      by_cases hlt : j < 5
      · obtain ⟨fj, hfj⟩ : ∃ t, Hid (t = no j) := ⟨_, hd_ rfl⟩
        obtain ⟨wj, hwj⟩ : ∃ t, Hid (t = nw j) := ⟨_, hd_ rfl⟩
        obtain ⟨hb, hw2, hw12⟩ : fj + wj ≤ 148 ∧ 2 ≤ wj ∧ wj ≤ 12 := by rw [hfj.out, hwj.out]; exact no_le j
        have hlti : (j : Int) < 5 := by omega
        have hel : Hid (∀ q v, [Value.pointer (some ⟨gh, 7 + j, none⟩), .int .i64 (fj : Nat), .int .i64 ((fj : Int) + wj)][q]? = some v → (#[.pointer (some ⟨gh, 7, none⟩), .int .i64 100, .int .i64 108, .pointer (some ⟨gh, 8, none⟩), .int .i64 108, .int .i64 116, .pointer (some ⟨gh, 9, none⟩), .int .i64 116, .int .i64 124, .pointer (some ⟨gh, 10, none⟩), .int .i64 124, .int .i64 136, .pointer (some ⟨gh, 11, none⟩), .int .i64 136, .int .i64 148] : Array Value)[j * 3 + q]? = some v) := hd_ (by
          rw [hfj.out, hwj.out]
          exact ptrs_at hlt)
        go_wp2_with (first | ((with_reducible refine wpl ?_); apply ld_at (hM := hM) [.pointer (some ⟨gh, 7 + j, none⟩), .int .i64 (fj : Nat), .int .i64 ((fj : Int) + wj)]; rfl; (first | exact want_none rfl | exact want_some rfl rfl rfl rfl); rfl; (first | exact .head _ _ | exact .tail (.head _ _) | exact .tail (.tail (.head _ _)) | exact .tail (.tail (.tail (.head _ _))) | exact .tail (.tail (.tail (.tail (.head _ _))))); exact hel.out; exact row46; simp only [Act.put, List.setIfInBounds_toArray, List.set_cons_zero, List.set_cons_succ]) | ((with_reducible refine wpl ?_); apply sl_lh fj (fj + wj) (e := 5) (size := 1); rfl; (first | exact want_none rfl | exact want_some rfl rfl rfl rfl); exact und24; exact size5; rfl; rfl; rfl; rfl; exact (Int.natCast_add fj wj).symm; omega; omega; (rw [cutm (by omega), Nat.add_sub_cancel_left]); simp only [Act.put, List.setIfInBounds_toArray, List.set_cons_zero, List.set_cons_succ]) | ((with_reducible refine wpl ?_); apply al_box (hM := hM); rfl; (first | exact want_none rfl | exact want_some rfl rfl rfl rfl); (first | (focus (go_simp; done)) | (focus (go_simp; rfl))); intro gb w1 hM1; clear hM; dsimp only [Value.cells] at hM1; have hM := hM1; clear hM1; simp only [Act.put, List.setIfInBounds_toArray, List.set_cons_zero, List.set_cons_succ]) | ((with_reducible refine wpl ?_); apply al_zero (hM := hM); rfl; (first | exact want_none rfl | exact want_some rfl rfl rfl rfl); (first | exact zero23 | exact zero46); intro gz w1 hM1; clear hM; dsimp only [Value.cells] at hM1; have hM := hM1; clear hM1; simp only [Act.put, List.setIfInBounds_toArray, List.set_cons_zero, List.set_cons_succ]) | ((with_reducible refine wpl ?_); apply ld_row (hM := hM); rfl; (first | exact want_none rfl | exact want_some rfl rfl rfl rfl); rfl; (first | exact .head _ _ | exact .tail (.head _ _) | exact .tail (.tail (.head _ _)) | exact .tail (.tail (.tail (.head _ _))) | exact .tail (.tail (.tail (.tail (.head _ _)))) | exact .tail (.tail (.tail (.tail (.tail (.head _ _)))))); (first | exact row23 | exact row46); simp only [Act.put, List.setIfInBounds_toArray, List.set_cons_zero, List.set_cons_succ]) | ((with_reducible refine wpl ?_); apply st_row (hM := hM); rfl; (first | exact want_none rfl | exact want_some rfl rfl rfl rfl); rfl; (first | (focus (go_simp; done)) | (focus (go_simp; rfl))); (first | exact .head _ _ | exact .tail (.head _ _) | exact .tail (.tail (.head _ _)) | exact .tail (.tail (.tail (.head _ _))) | exact .tail (.tail (.tail (.tail (.head _ _)))) | exact .tail (.tail (.tail (.tail (.tail (.head _ _)))))); rfl; rfl; (first | exact row23 | exact row46); intro w1 hM1; clear hM; (try simp only [List.setIfInBounds_toArray, List.set_cons_zero, List.set_cons_succ] at hM1);  have hM := hM1; clear hM1; simp only [Act.put, List.setIfInBounds_toArray, List.set_cons_zero, List.set_cons_succ]) | ((with_reducible refine wpl ?_); apply ld_one (hM := hM); rfl; (first | exact want_none rfl | exact want_some rfl rfl rfl rfl); rfl; (first | exact .head _ _ | exact .tail (.head _ _) | exact .tail (.tail (.head _ _)) | exact .tail (.tail (.tail (.head _ _))) | exact .tail (.tail (.tail (.tail (.head _ _)))) | exact .tail (.tail (.tail (.tail (.tail (.head _ _)))))); (first | (focus (simp only [List.getElem?_toArray, List.getElem?_cons_zero, List.getElem?_cons_succ]; rfl)) | rfl); (first | exact one9 | exact one3 | exact one2 | exact one5 | exact one45); simp only [Act.put, List.setIfInBounds_toArray, List.set_cons_zero, List.set_cons_succ]) | ((with_reducible refine wpl ?_); apply st_cell (hM := hM); rfl; (first | exact want_none rfl | exact want_some rfl rfl rfl rfl); rfl; (first | (focus (go_simp; done)) | (focus (go_simp; rfl))); (first | exact .head _ _ | exact .tail (.head _ _) | exact .tail (.tail (.head _ _)) | exact .tail (.tail (.tail (.head _ _))) | exact .tail (.tail (.tail (.tail (.head _ _)))) | exact .tail (.tail (.tail (.tail (.tail (.head _ _)))))); (first | (focus (simp; done)) | (focus (rw [tab_size]; omega))); rfl; (first | exact one9 | exact one3 | exact one2 | exact one5 | exact one45); intro w1 hM1; clear hM; (try simp only [List.setIfInBounds_toArray, List.set_cons_zero, List.set_cons_succ] at hM1);  have hM := hM1; clear hM1; simp only [Act.put, List.setIfInBounds_toArray, List.set_cons_zero, List.set_cons_succ]))
        refine (parse_n _ g fj (c - fj) wj (seg D fj wj) (seg_len _ _ _) (at_part (hA.out _ hM.tail.tail.tail.tail) (by omega)) (by omega) (by omega)).mono ?_
        rintro e w4 ⟨n, k, rfl, hw4, hoc⟩
        subst hw4
        replace hoc := hd_ hoc
        by_cases hk : k = 0
        · subst hk
          go_wp2_with (first | ((with_reducible refine wpl ?_); apply st_cell (hM := hM) (ht := one2); rfl; (first | exact want_none rfl | exact want_some rfl rfl rfl rfl); rfl; (first | (focus (go_simp; done)) | (focus (go_simp; rfl))); (first | exact .head _ _ | exact .tail (.head _ _) | exact .tail (.tail (.head _ _)) | exact .tail (.tail (.tail (.head _ _))) | exact .tail (.tail (.tail (.tail (.head _ _)))) | exact .tail (.tail (.tail (.tail (.tail (.head _ _)))))); (show 7 + j < 12; omega); rfl; intro w1 hM1; clear hM; have hM := hM1; clear hM1; simp only [Act.put, List.setIfInBounds_toArray, List.set_cons_zero, List.set_cons_succ]) | ((with_reducible refine wpl ?_); apply al_box (hM := hM); rfl; (first | exact want_none rfl | exact want_some rfl rfl rfl rfl); (first | (focus (go_simp; done)) | (focus (go_simp; rfl))); intro gb w1 hM1; clear hM; dsimp only [Value.cells] at hM1; have hM := hM1; clear hM1; simp only [Act.put, List.setIfInBounds_toArray, List.set_cons_zero, List.set_cons_succ]) | ((with_reducible refine wpl ?_); apply al_zero (hM := hM); rfl; (first | exact want_none rfl | exact want_some rfl rfl rfl rfl); (first | exact zero23 | exact zero46); intro gz w1 hM1; clear hM; dsimp only [Value.cells] at hM1; have hM := hM1; clear hM1; simp only [Act.put, List.setIfInBounds_toArray, List.set_cons_zero, List.set_cons_succ]) | ((with_reducible refine wpl ?_); apply ld_row (hM := hM); rfl; (first | exact want_none rfl | exact want_some rfl rfl rfl rfl); rfl; (first | exact .head _ _ | exact .tail (.head _ _) | exact .tail (.tail (.head _ _)) | exact .tail (.tail (.tail (.head _ _))) | exact .tail (.tail (.tail (.tail (.head _ _)))) | exact .tail (.tail (.tail (.tail (.tail (.head _ _)))))); (first | exact row23 | exact row46); simp only [Act.put, List.setIfInBounds_toArray, List.set_cons_zero, List.set_cons_succ]) | ((with_reducible refine wpl ?_); apply st_row (hM := hM); rfl; (first | exact want_none rfl | exact want_some rfl rfl rfl rfl); rfl; (first | (focus (go_simp; done)) | (focus (go_simp; rfl))); (first | exact .head _ _ | exact .tail (.head _ _) | exact .tail (.tail (.head _ _)) | exact .tail (.tail (.tail (.head _ _))) | exact .tail (.tail (.tail (.tail (.head _ _)))) | exact .tail (.tail (.tail (.tail (.tail (.head _ _)))))); rfl; rfl; (first | exact row23 | exact row46); intro w1 hM1; clear hM; (try simp only [List.setIfInBounds_toArray, List.set_cons_zero, List.set_cons_succ] at hM1);  have hM := hM1; clear hM1; simp only [Act.put, List.setIfInBounds_toArray, List.set_cons_zero, List.set_cons_succ]) | ((with_reducible refine wpl ?_); apply ld_one (hM := hM); rfl; (first | exact want_none rfl | exact want_some rfl rfl rfl rfl); rfl; (first | exact .head _ _ | exact .tail (.head _ _) | exact .tail (.tail (.head _ _)) | exact .tail (.tail (.tail (.head _ _))) | exact .tail (.tail (.tail (.tail (.head _ _)))) | exact .tail (.tail (.tail (.tail (.tail (.head _ _)))))); (first | (focus (simp only [List.getElem?_toArray, List.getElem?_cons_zero, List.getElem?_cons_succ]; rfl)) | rfl); (first | exact one9 | exact one3 | exact one2 | exact one5 | exact one45); simp only [Act.put, List.setIfInBounds_toArray, List.set_cons_zero, List.set_cons_succ]) | ((with_reducible refine wpl ?_); apply st_cell (hM := hM); rfl; (first | exact want_none rfl | exact want_some rfl rfl rfl rfl); rfl; (first | (focus (go_simp; done)) | (focus (go_simp; rfl))); (first | exact .head _ _ | exact .tail (.head _ _) | exact .tail (.tail (.head _ _)) | exact .tail (.tail (.tail (.head _ _))) | exact .tail (.tail (.tail (.tail (.head _ _)))) | exact .tail (.tail (.tail (.tail (.tail (.head _ _)))))); (first | (focus (simp; done)) | (focus (rw [tab_size]; omega))); rfl; (first | exact one9 | exact one3 | exact one2 | exact one5 | exact one45); intro w1 hM1; clear hM; (try simp only [List.setIfInBounds_toArray, List.set_cons_zero, List.set_cons_succ] at hM1);  have hM := hM1; clear hM1; simp only [Act.put, List.setIfInBounds_toArray, List.set_cons_zero, List.set_cons_succ]))
          go_roundw
          case rel =>
            refine ⟨j + 1, up1 m j n, by omega, by go_num, hd_ (fun v hv i hi => ?_), ?_⟩
            · unfold up1
              by_cases e : i = j
              · subst e
                rw [if_pos rfl]
                exact (hoc.out _ (by rw [hfj.out, hwj.out]; exact hv i hlt)).1
              · rw [if_neg e]
                exact hmv.out v hv i (by omega)
            · rw [set_num hlt] at hM
              exact swap4 hM
          case measure => simp [intOf] <;> omega
        · have hkb : (k != 0) = true := by simpa using hk
          go_wp2_with (first | ((with_reducible refine wpl ?_); apply al_box (hM := hM); rfl; (first | exact want_none rfl | exact want_some rfl rfl rfl rfl); (first | (focus (go_simp; done)) | (focus (go_simp; rfl))); intro gb w1 hM1; clear hM; dsimp only [Value.cells] at hM1; have hM := hM1; clear hM1; simp only [Act.put, List.setIfInBounds_toArray, List.set_cons_zero, List.set_cons_succ]) | ((with_reducible refine wpl ?_); apply al_zero (hM := hM); rfl; (first | exact want_none rfl | exact want_some rfl rfl rfl rfl); (first | exact zero23 | exact zero46); intro gz w1 hM1; clear hM; dsimp only [Value.cells] at hM1; have hM := hM1; clear hM1; simp only [Act.put, List.setIfInBounds_toArray, List.set_cons_zero, List.set_cons_succ]) | ((with_reducible refine wpl ?_); apply ld_row (hM := hM); rfl; (first | exact want_none rfl | exact want_some rfl rfl rfl rfl); rfl; (first | exact .head _ _ | exact .tail (.head _ _) | exact .tail (.tail (.head _ _)) | exact .tail (.tail (.tail (.head _ _))) | exact .tail (.tail (.tail (.tail (.head _ _)))) | exact .tail (.tail (.tail (.tail (.tail (.head _ _)))))); (first | exact row23 | exact row46); simp only [Act.put, List.setIfInBounds_toArray, List.set_cons_zero, List.set_cons_succ]) | ((with_reducible refine wpl ?_); apply st_row (hM := hM); rfl; (first | exact want_none rfl | exact want_some rfl rfl rfl rfl); rfl; (first | (focus (go_simp; done)) | (focus (go_simp; rfl))); (first | exact .head _ _ | exact .tail (.head _ _) | exact .tail (.tail (.head _ _)) | exact .tail (.tail (.tail (.head _ _))) | exact .tail (.tail (.tail (.tail (.head _ _)))) | exact .tail (.tail (.tail (.tail (.tail (.head _ _)))))); rfl; rfl; (first | exact row23 | exact row46); intro w1 hM1; clear hM; (try simp only [List.setIfInBounds_toArray, List.set_cons_zero, List.set_cons_succ] at hM1);  have hM := hM1; clear hM1; simp only [Act.put, List.setIfInBounds_toArray, List.set_cons_zero, List.set_cons_succ]) | ((with_reducible refine wpl ?_); apply ld_one (hM := hM); rfl; (first | exact want_none rfl | exact want_some rfl rfl rfl rfl); rfl; (first | exact .head _ _ | exact .tail (.head _ _) | exact .tail (.tail (.head _ _)) | exact .tail (.tail (.tail (.head _ _))) | exact .tail (.tail (.tail (.tail (.head _ _)))) | exact .tail (.tail (.tail (.tail (.tail (.head _ _)))))); (first | (focus (simp only [List.getElem?_toArray, List.getElem?_cons_zero, List.getElem?_cons_succ]; rfl)) | rfl); (first | exact one9 | exact one3 | exact one2 | exact one5 | exact one45); simp only [Act.put, List.setIfInBounds_toArray, List.set_cons_zero, List.set_cons_succ]) | ((with_reducible refine wpl ?_); apply st_cell (hM := hM); rfl; (first | exact want_none rfl | exact want_some rfl rfl rfl rfl); rfl; (first | (focus (go_simp; done)) | (focus (go_simp; rfl))); (first | exact .head _ _ | exact .tail (.head _ _) | exact .tail (.tail (.head _ _)) | exact .tail (.tail (.tail (.head _ _))) | exact .tail (.tail (.tail (.tail (.head _ _)))) | exact .tail (.tail (.tail (.tail (.tail (.head _ _)))))); (first | (focus (simp; done)) | (focus (rw [tab_size]; omega))); rfl; (first | exact one9 | exact one3 | exact one2 | exact one5 | exact one45); intro w1 hM1; clear hM; (try simp only [List.setIfInBounds_toArray, List.set_cons_zero, List.set_cons_succ] at hM1);  have hM := hM1; clear hM1; simp only [Act.put, List.setIfInBounds_toArray, List.set_cons_zero, List.set_cons_succ]))
          exact bodyPost_ret (results_row rfl hM rfl (by (first | exact .head _ _ | exact .tail (.head _ _) | exact .tail (.tail (.head _ _)) | exact .tail (.tail (.tail (.head _ _))) | exact .tail (.tail (.tail (.tail (.head _ _)))) | exact .tail (.tail (.tail (.tail (.tail (.head _ _))))))) row23 rfl) rfl ⟨⟨0, [], [], [], [], [], 0, 0, 0, 0, 0, 0⟩, _, rfl, hM.tail.tail.tail.tail, fun v hv => absurd (hoc.out _ (by rw [hfj.out, hwj.out]; exact hv j hlt)).2 hk⟩
      · obtain rfl : j = 5 := by omega
        clear hlt hj
        go_upto_region 21 with (first | ((with_reducible refine wpl ?_); apply sl_lh 257 265 (e := 5) (size := 1); rfl; (first | exact want_none rfl | exact want_some rfl rfl rfl rfl); exact und24; exact size5; rfl; rfl; rfl; rfl; rfl; omega; omega; (rw [cutm (by omega)]); simp only [Act.put, List.setIfInBounds_toArray, List.set_cons_zero, List.set_cons_succ]) | ((with_reducible refine wpl ?_); apply sl_lh 345 500 (e := 5) (size := 1); rfl; (first | exact want_none rfl | exact want_some rfl rfl rfl rfl); exact und24; exact size5; rfl; rfl; rfl; rfl; rfl; omega; omega; (rw [cutm (by omega)]); simp only [Act.put, List.setIfInBounds_toArray, List.set_cons_zero, List.set_cons_succ]) | ((with_reducible refine wpl ?_); apply cv_bs (bs := [117, 115, 116, 97, 114, 0, 48, 48]); rfl; (first | exact want_none rfl | exact want_some rfl rfl rfl rfl); exact und24; exact und5; exact und9; exact mag_bytes (hA.out _ hM.tail.tail.tail) hmag.out hc; simp only [Act.put, List.setIfInBounds_toArray, List.set_cons_zero, List.set_cons_succ]) | (go_at_call 16; (with_reducible refine (text_ _ g 345 (c - 345) 155 (seg D 345 155) (seg_len _ _ _) (at_part (hA.out _ hM.tail.tail.tail) (by omega)) (by omega) (by omega)).mono ?_); rintro e w7 ⟨rfl, hb7⟩; replace hM := hM.step hb7; clear hb7) | ((with_reducible refine wpl ?_); apply al_box (hM := hM); rfl; (first | exact want_none rfl | exact want_some rfl rfl rfl rfl); (first | (focus (go_simp; done)) | (focus (go_simp; rfl))); intro gb w1 hM1; clear hM; dsimp only [Value.cells] at hM1; have hM := hM1; clear hM1; simp only [Act.put, List.setIfInBounds_toArray, List.set_cons_zero, List.set_cons_succ]) | ((with_reducible refine wpl ?_); apply al_zero (hM := hM); rfl; (first | exact want_none rfl | exact want_some rfl rfl rfl rfl); (first | exact zero23 | exact zero46); intro gz w1 hM1; clear hM; dsimp only [Value.cells] at hM1; have hM := hM1; clear hM1; simp only [Act.put, List.setIfInBounds_toArray, List.set_cons_zero, List.set_cons_succ]) | ((with_reducible refine wpl ?_); apply ld_row (hM := hM); rfl; (first | exact want_none rfl | exact want_some rfl rfl rfl rfl); rfl; (first | exact .head _ _ | exact .tail (.head _ _) | exact .tail (.tail (.head _ _)) | exact .tail (.tail (.tail (.head _ _))) | exact .tail (.tail (.tail (.tail (.head _ _)))) | exact .tail (.tail (.tail (.tail (.tail (.head _ _)))))); (first | exact row23 | exact row46); simp only [Act.put, List.setIfInBounds_toArray, List.set_cons_zero, List.set_cons_succ]) | ((with_reducible refine wpl ?_); apply st_row (hM := hM); rfl; (first | exact want_none rfl | exact want_some rfl rfl rfl rfl); rfl; (first | (focus (go_simp; done)) | (focus (go_simp; rfl))); (first | exact .head _ _ | exact .tail (.head _ _) | exact .tail (.tail (.head _ _)) | exact .tail (.tail (.tail (.head _ _))) | exact .tail (.tail (.tail (.tail (.head _ _)))) | exact .tail (.tail (.tail (.tail (.tail (.head _ _)))))); rfl; rfl; (first | exact row23 | exact row46); intro w1 hM1; clear hM; (try simp only [List.setIfInBounds_toArray, List.set_cons_zero, List.set_cons_succ] at hM1);  have hM := hM1; clear hM1; simp only [Act.put, List.setIfInBounds_toArray, List.set_cons_zero, List.set_cons_succ]) | ((with_reducible refine wpl ?_); apply ld_one (hM := hM); rfl; (first | exact want_none rfl | exact want_some rfl rfl rfl rfl); rfl; (first | exact .head _ _ | exact .tail (.head _ _) | exact .tail (.tail (.head _ _)) | exact .tail (.tail (.tail (.head _ _))) | exact .tail (.tail (.tail (.tail (.head _ _)))) | exact .tail (.tail (.tail (.tail (.tail (.head _ _)))))); (first | (focus (simp only [List.getElem?_toArray, List.getElem?_cons_zero, List.getElem?_cons_succ]; rfl)) | rfl); (first | exact one9 | exact one3 | exact one2 | exact one5 | exact one45); simp only [Act.put, List.setIfInBounds_toArray, List.set_cons_zero, List.set_cons_succ]) | ((with_reducible refine wpl ?_); apply st_cell (hM := hM); rfl; (first | exact want_none rfl | exact want_some rfl rfl rfl rfl); rfl; (first | (focus (go_simp; done)) | (focus (go_simp; rfl))); (first | exact .head _ _ | exact .tail (.head _ _) | exact .tail (.tail (.head _ _)) | exact .tail (.tail (.tail (.head _ _))) | exact .tail (.tail (.tail (.tail (.head _ _)))) | exact .tail (.tail (.tail (.tail (.tail (.head _ _)))))); (first | (focus (simp; done)) | (focus (rw [tab_size]; omega))); rfl; (first | exact one9 | exact one3 | exact one2 | exact one5 | exact one45); intro w1 hM1; clear hM; (try simp only [List.setIfInBounds_toArray, List.set_cons_zero, List.set_cons_succ] at hM1);  have hM := hM1; clear hM1; simp only [Act.put, List.setIfInBounds_toArray, List.set_cons_zero, List.set_cons_succ]))
        refine reg_begin (fun w' => Mem w0 w' fr l) (by kernel_rfl) hM (fun wd hMd => ?_)
        clear hM
        have hM := hMd
        clear hMd
        have hS := hM.tail.tail.tail
        refine reg_free 0 (v := .slice (some ⟨g, 0, none⟩) 512 c) rfl (by kernel_rfl) (by kernel_rfl) (by kernel_rfl) (fun _ _ _ h => h) (by (first | exact want_none rfl | exact want_some rfl rfl rfl rfl)) (fun w => by go_simp) hS ?_
        simp only [Act.put, List.setIfInBounds_toArray, List.set_cons_zero, List.set_cons_succ]
        refine reg_free 1 (v := .slice (some ⟨g, 265, none⟩) (297 - 265) (c - 265)) rfl (by kernel_rfl) (by kernel_rfl) (by kernel_rfl) (fun _ _ _ h => h) (by (first | exact want_none rfl | exact want_some rfl rfl rfl rfl)) (fun w => by exact run_sl_lhm w 265 297 rfl rfl rfl rfl rfl rfl (by omega) (by omega) (by omega)) hS ?_
        simp only [Act.put, List.setIfInBounds_toArray, List.set_cons_zero, List.set_cons_succ]
        refine reg_free 3 (v := .slice (some ⟨g, 0, none⟩) 512 c) rfl (by kernel_rfl) (by kernel_rfl) (by kernel_rfl) (fun _ _ _ h => h) (by (first | exact want_none rfl | exact want_some rfl rfl rfl rfl)) (fun w => by go_simp) hS ?_
        simp only [Act.put, List.setIfInBounds_toArray, List.set_cons_zero, List.set_cons_succ]
        refine reg_free 4 (v := .slice (some ⟨g, 297, none⟩) (329 - 297) (c - 297)) rfl (by kernel_rfl) (by kernel_rfl) (by kernel_rfl) (fun _ _ _ h => h) (by (first | exact want_none rfl | exact want_some rfl rfl rfl rfl)) (fun w => by exact run_sl_lhm w 297 329 rfl rfl rfl rfl rfl rfl (by omega) (by omega) (by omega)) hS ?_
        simp only [Act.put, List.setIfInBounds_toArray, List.set_cons_zero, List.set_cons_succ]
        refine reg_step 2 (by kernel_rfl) rfl ?_
        refine call_fn rfl (by (first | exact want_none rfl | exact want_some rfl rfl rfl rfl)) cf16 (text_ _ g 265 (c - 265) 32 (seg D 265 32) (seg_len _ _ _) (at_part (hA.out _ hS) (by omega)) (by omega) (by omega)) (by simp only [List.map_toArray, List.map_cons, List.map_nil]; rfl) ?_
        rintro e w7 ⟨rfl, hb7⟩
        replace hM := hM.step hb7
        replace hS := hS.step hb7
        clear hb7
        refine ⟨_, rfl, ?_⟩
        refine ⟨hS, ?_⟩
        simp only [Act.put, List.setIfInBounds_toArray, List.set_cons_zero, List.set_cons_succ]
        refine reg_step 5 (by kernel_rfl) rfl ?_
        refine call_fn rfl (by (first | exact want_none rfl | exact want_some rfl rfl rfl rfl)) cf16 (text_ _ g 297 (c - 297) 32 (seg D 297 32) (seg_len _ _ _) (at_part (hA.out _ hS) (by omega)) (by omega) (by omega)) (by simp only [List.map_toArray, List.map_cons, List.map_nil]; rfl) ?_
        rintro e w7 ⟨rfl, hb7⟩
        replace hM := hM.step hb7
        replace hS := hS.step hb7
        clear hb7
        refine ⟨_, rfl, ?_⟩
        refine ⟨hS, ?_⟩
        simp only [Act.put, List.setIfInBounds_toArray, List.set_cons_zero, List.set_cons_succ]
        refine reg_free 6 (v := .pointer (some ⟨gh, 4, none⟩)) rfl (by kernel_rfl) (by kernel_rfl) (by kernel_rfl) (fun _ _ _ h => h) (by (first | exact want_none rfl | exact want_some rfl rfl rfl rfl)) (fun w => by go_simp) hS ?_
        simp only [Act.put, List.setIfInBounds_toArray, List.set_cons_zero, List.set_cons_succ]
        refine reg_step 7 (by kernel_rfl) rfl ?_
        apply st_cell (hM := hM) (ht := one9); rfl; (first | exact want_none rfl | exact want_some rfl rfl rfl rfl); rfl; (first | (focus (go_simp; done)) | (focus (go_simp; rfl))); (first | exact .head _ _ | exact .tail (.head _ _) | exact .tail (.tail (.head _ _))); (focus (simp; done)); rfl
        intro w6 hM1
        clear hM
        (try simp only [List.setIfInBounds_toArray, List.set_cons_zero, List.set_cons_succ] at hM1)
        have hM := hM1
        clear hM1
        clear hS
        have hS := hM.tail.tail.tail
        refine ⟨hS, ?_⟩
        simp only [Act.put, List.setIfInBounds_toArray, List.set_cons_zero, List.set_cons_succ]
        refine reg_free 8 (v := .pointer (some ⟨gh, 5, none⟩)) rfl (by kernel_rfl) (by kernel_rfl) (by kernel_rfl) (fun _ _ _ h => h) (by (first | exact want_none rfl | exact want_some rfl rfl rfl rfl)) (fun w => by go_simp) hS ?_
        simp only [Act.put, List.setIfInBounds_toArray, List.set_cons_zero, List.set_cons_succ]
        refine reg_step 9 (by kernel_rfl) rfl ?_
        apply st_cell (hM := hM) (ht := one9); rfl; (first | exact want_none rfl | exact want_some rfl rfl rfl rfl); rfl; (first | (focus (go_simp; done)) | (focus (go_simp; rfl))); (first | exact .head _ _ | exact .tail (.head _ _) | exact .tail (.tail (.head _ _))); (focus (simp; done)); rfl
        intro w6 hM1
        clear hM
        (try simp only [List.setIfInBounds_toArray, List.set_cons_zero, List.set_cons_succ] at hM1)
        have hM := hM1
        clear hM1
        clear hS
        have hS := hM.tail.tail.tail
        refine ⟨hS, ?_⟩
        simp only [Act.put, List.setIfInBounds_toArray, List.set_cons_zero, List.set_cons_succ]
        refine reg_done (by kernel_rfl) ?_
        clear hS
        go_wp2_with (first | ((with_reducible refine wpl ?_); apply al_box (hM := hM); rfl; (first | exact want_none rfl | exact want_some rfl rfl rfl rfl); (first | (focus (go_simp; done)) | (focus (go_simp; rfl))); intro gb w1 hM1; clear hM; dsimp only [Value.cells] at hM1; have hM := hM1; clear hM1; simp only [Act.put, List.setIfInBounds_toArray, List.set_cons_zero, List.set_cons_succ]) | ((with_reducible refine wpl ?_); apply al_zero (hM := hM); rfl; (first | exact want_none rfl | exact want_some rfl rfl rfl rfl); (first | exact zero23 | exact zero46); intro gz w1 hM1; clear hM; dsimp only [Value.cells] at hM1; have hM := hM1; clear hM1; simp only [Act.put, List.setIfInBounds_toArray, List.set_cons_zero, List.set_cons_succ]) | ((with_reducible refine wpl ?_); apply ld_row (hM := hM); rfl; (first | exact want_none rfl | exact want_some rfl rfl rfl rfl); rfl; (first | exact .head _ _ | exact .tail (.head _ _) | exact .tail (.tail (.head _ _)) | exact .tail (.tail (.tail (.head _ _))) | exact .tail (.tail (.tail (.tail (.head _ _)))) | exact .tail (.tail (.tail (.tail (.tail (.head _ _)))))); (first | exact row23 | exact row46); simp only [Act.put, List.setIfInBounds_toArray, List.set_cons_zero, List.set_cons_succ]) | ((with_reducible refine wpl ?_); apply st_row (hM := hM); rfl; (first | exact want_none rfl | exact want_some rfl rfl rfl rfl); rfl; (first | (focus (go_simp; done)) | (focus (go_simp; rfl))); (first | exact .head _ _ | exact .tail (.head _ _) | exact .tail (.tail (.head _ _)) | exact .tail (.tail (.tail (.head _ _))) | exact .tail (.tail (.tail (.tail (.head _ _)))) | exact .tail (.tail (.tail (.tail (.tail (.head _ _)))))); rfl; rfl; (first | exact row23 | exact row46); intro w1 hM1; clear hM; (try simp only [List.setIfInBounds_toArray, List.set_cons_zero, List.set_cons_succ] at hM1);  have hM := hM1; clear hM1; simp only [Act.put, List.setIfInBounds_toArray, List.set_cons_zero, List.set_cons_succ]) | ((with_reducible refine wpl ?_); apply ld_one (hM := hM); rfl; (first | exact want_none rfl | exact want_some rfl rfl rfl rfl); rfl; (first | exact .head _ _ | exact .tail (.head _ _) | exact .tail (.tail (.head _ _)) | exact .tail (.tail (.tail (.head _ _))) | exact .tail (.tail (.tail (.tail (.head _ _)))) | exact .tail (.tail (.tail (.tail (.tail (.head _ _)))))); (first | (focus (simp only [List.getElem?_toArray, List.getElem?_cons_zero, List.getElem?_cons_succ]; rfl)) | rfl); (first | exact one9 | exact one3 | exact one2 | exact one5 | exact one45); simp only [Act.put, List.setIfInBounds_toArray, List.set_cons_zero, List.set_cons_succ]) | ((with_reducible refine wpl ?_); apply st_cell (hM := hM); rfl; (first | exact want_none rfl | exact want_some rfl rfl rfl rfl); rfl; (first | (focus (go_simp; done)) | (focus (go_simp; rfl))); (first | exact .head _ _ | exact .tail (.head _ _) | exact .tail (.tail (.head _ _)) | exact .tail (.tail (.tail (.head _ _))) | exact .tail (.tail (.tail (.tail (.head _ _)))) | exact .tail (.tail (.tail (.tail (.tail (.head _ _)))))); (first | (focus (simp; done)) | (focus (rw [tab_size]; omega))); rfl; (first | exact one9 | exact one3 | exact one2 | exact one5 | exact one45); intro w1 hM1; clear hM; (try simp only [List.setIfInBounds_toArray, List.set_cons_zero, List.set_cons_succ] at hM1);  have hM := hM1; clear hM1; simp only [Act.put, List.setIfInBounds_toArray, List.set_cons_zero, List.set_cons_succ]))
        exact bodyPost_ret (results_row rfl hM rfl (by (first | exact .head _ _ | exact .tail (.head _ _) | exact .tail (.tail (.head _ _)) | exact .tail (.tail (.tail (.head _ _))) | exact .tail (.tail (.tail (.tail (.head _ _)))) | exact .tail (.tail (.tail (.tail (.tail (.head _ _))))))) row23 rfl) rfl ⟨⟨1, tn, tk, txt (seg D 345 155), txt (seg D 265 32), txt (seg D 297 32), ty, m 0, m 1, m 2, m 3, m 4⟩, 0, rfl, hM.tail.tail.tail, fun v hv => ⟨rfl, by
          have h := hmv.out v hv
          rw [htn.out, htk.out, hty.out, h 0 (by omega), h 1 (by omega), h 2 (by omega), h 3 (by omega), h 4 (by omega)]⟩⟩
end
end Go.Proofs.Ytfpfdnckibaldaa.H
