/- Whether a header bears its sum; a text up to its first byte 0; whether a text fits. No condition. -/
import Derived.Test.YtfpfdnckibaldaaSm
import Derived.Deep.CutBlock
import Derived.Lib.IndexLaws
set_option linter.unusedSimpArgs false
set_option linter.unusedVariables false
namespace Go.Proofs.Ytfpfdnckibaldaa.H
open Go.RowKit Go.Proofs.Ytfpfdnckibaldaa.M Go.Proofs.Ytfpfdnckibaldaa.O


/-- A text up to its first byte 0. -/
def txt (bs : List UInt8) : List UInt8 := bs.takeWhile (fun b => b != 0)

theorem txt_take {bs : List UInt8} {o : Nat} (h0 : bs[o]? = some 0) (h : ∀ k, k < o → bs[k]? ≠ some 0) : txt bs = bs.take o := by
  unfold txt
  induction bs generalizing o with
  | nil => simp at h0
  | cons b bs ih =>
    cases o with
    | zero =>
      simp only [List.getElem?_cons_zero, Option.some.injEq] at h0
      subst h0
      simp
    | succ o =>
      have hb : b ≠ 0 := fun e => h 0 (by omega) (by simp [e])
      rw [List.takeWhile_cons_of_pos (by simpa using hb), List.take_succ_cons]
      congr 1
      exact ih (by simpa using h0) (fun k hk => by have := h (k + 1) (by omega); simpa using this)
theorem txt_all {bs : List UInt8} (h : ∀ k : Nat, bs[k]? ≠ some 0) : txt bs = bs := by
  unfold txt
  induction bs with
  | nil => rfl
  | cons b bs ih =>
    have hb : b ≠ 0 := fun e => h 0 (by simp [e])
    rw [List.takeWhile_cons_of_pos (by simpa using hb)]
    congr 1
    exact ih (fun k => by have := h (k + 1); simpa using this)

theorem run_str_h {a : Act} {x hi : Operand} {bs : List UInt8} {kh : IntKind} {H : Int} {oi : Oper} (w : World) (n : Nat) (hop : oi.op = .slice 9 x none (some hi) none)
    (hx : a.eval x = .string ⟨bs.toArray⟩) (hhi : a.eval hi = .int kh H) (hH : H = (n : Int)) (h2 : n ≤ bs.length) :
    (execOp a.eval oi).run Try.prog w = .ok (.value (.string ⟨(bs.take n).toArray⟩)) w := by
  have hsz : (ByteArray.mk bs.toArray).size = bs.length := rfl
  have hrun : (Instr.sliceAt 9 (.string ⟨bs.toArray⟩) none (some (.int kh H)) none).run Try.prog w = .ok (.string ⟨(bs.take n).toArray⟩) w := by
    simp [Instr.sliceAt, Instr.slice, run_underlying und9, Instr.sliceBounds, hsz, run_bound w kh H n bs.length _ hH h2, extract_list]
  unfold execOp
  simp only [hop, hx, hhi, Option.map_some, Option.map_none, Sem.run_bind, hrun, Result.andThen_ok]
  rfl
theorem run_str_l {a : Act} {x lo : Operand} {bs : List UInt8} {kh : IntKind} {H : Int} {oi : Oper} (w : World) (n : Nat) (hop : oi.op = .slice 9 x (some lo) none none)
    (hx : a.eval x = .string ⟨bs.toArray⟩) (hlo : a.eval lo = .int kh H) (hH : H = (n : Int)) (h2 : n ≤ bs.length) :
    (execOp a.eval oi).run Try.prog w = .ok (.value (.string ⟨(bs.drop n).toArray⟩)) w := by
  have hsz : (ByteArray.mk bs.toArray).size = bs.length := rfl
  have hrun : (Instr.sliceAt 9 (.string ⟨bs.toArray⟩) (some (.int kh H)) none none).run Try.prog w = .ok (.string ⟨(bs.drop n).toArray⟩) w := by
    simp [Instr.sliceAt, Instr.slice, run_underlying und9, Instr.sliceBounds, hsz, run_bound w kh H n bs.length _ hH h2, extract_list]
  unfold execOp
  simp only [hop, hx, hlo, Option.map_some, Option.map_none, Sem.run_bind, hrun, Result.andThen_ok]
  rfl

set_option maxHeartbeats 2000000 in
theorem cut_ (w : World) (bs : List UInt8) (hl : bs.length ≤ 1000000) : Calls Try.prog 25 #[.string ⟨bs.toArray⟩, .string ⟨#[0]⟩] w fun e w' => (∃ r b, e = .returned (.tuple #[.string ⟨(txt bs).toArray⟩, r, b])) ∧ Below w.heap.size w w' := by
  have hix := Try.stringslite_Index_one ⟨bs.toArray⟩ 0 w
  have hli : (bs.length : Int) ≤ 1000000 := by omega
  have hsz : (ByteArray.mk bs.toArray).size = bs.length := rfl
  have hge := Lib.indexByte_ge bs 0
  rw [show (ByteArray.mk bs.toArray).data.toList = bs from rfl] at hix
  by_cases hn : Lib.indexByte bs 0 = -1
  · have htx := txt_all (Lib.indexByte_none hn)
    rw [hn] at hix
    replace hn := hd_ hn
    replace htx := hd_ htx
    go_enter Try.func25, Try.ntmps25
    go_wp2_with (go_at_call 26; (with_reducible refine hix.mono ?_); rintro e w3 ⟨rfl, rfl⟩)
    go_ret3
    exact ⟨⟨_, _, by rw [htx.out]; rfl⟩, Below.refl _ _⟩
  · obtain ⟨o, ho⟩ : ∃ o : Nat, Lib.indexByte bs 0 = (o : Int) := ⟨(Lib.indexByte bs 0).toNat, by omega⟩
    obtain ⟨h1, h2⟩ := Lib.indexByte_some ho
    have htx := hd_ (txt_take h1 h2)
    have hlt : o < bs.length := (List.getElem?_eq_some_iff.1 h1).1
    rw [ho] at hix
    clear hn hge
    replace ho := hd_ ho
    replace h1 := hd_ h1
    replace h2 := hd_ h2
    have f1 : decide ((o : Int) ≥ 0) = true := decide_eq_true (by omega)
    go_enter Try.func25, Try.ntmps25
    go_wp2_with (go_at_call 26; (with_reducible refine hix.mono ?_); rintro e w3 ⟨rfl, hw3⟩; subst hw3)
    have hwr : IntKind.i64.wrap ((o : Int) + 1) = (o : Int) + 1 := IntWalk.i64_in _ (by omega)
    refine reg_begin (fun _ => True) (by kernel_rfl) (Mem.start _) (fun wd hMd => ?_)
    have hS : True := trivial
    refine reg_free 0 (v := .string ⟨bs.toArray⟩) rfl (by kernel_rfl) (by kernel_rfl) (by kernel_rfl) (fun _ _ _ h => h) (by (first | exact want_none rfl | exact want_some rfl rfl rfl rfl)) (fun w => by go_simp) hS ?_
    simp only [Act.put, List.setIfInBounds_toArray, List.set_cons_zero, List.set_cons_succ]
    refine reg_free 1 (v := .int .i64 (o : Nat)) rfl (by kernel_rfl) (by kernel_rfl) (by kernel_rfl) (fun _ _ _ h => h) (by (first | exact want_none rfl | exact want_some rfl rfl rfl rfl)) (fun w => by go_simp) hS ?_
    simp only [Act.put, List.setIfInBounds_toArray, List.set_cons_zero, List.set_cons_succ]
    refine reg_free 2 (v := .string ⟨(bs.take o).toArray⟩) rfl (by kernel_rfl) (by kernel_rfl) (by kernel_rfl) (fun _ _ _ h => h) (by (first | exact want_none rfl | exact want_some rfl rfl rfl rfl)) (fun w => by exact run_str_h w o rfl rfl rfl rfl (by omega)) hS ?_
    simp only [Act.put, List.setIfInBounds_toArray, List.set_cons_zero, List.set_cons_succ]
    refine reg_free 3 (v := .string ⟨bs.toArray⟩) rfl (by kernel_rfl) (by kernel_rfl) (by kernel_rfl) (fun _ _ _ h => h) (by (first | exact want_none rfl | exact want_some rfl rfl rfl rfl)) (fun w => by go_simp) hS ?_
    simp only [Act.put, List.setIfInBounds_toArray, List.set_cons_zero, List.set_cons_succ]
    refine reg_free 4 (v := .int .i64 (o : Nat)) rfl (by kernel_rfl) (by kernel_rfl) (by kernel_rfl) (fun _ _ _ h => h) (by (first | exact want_none rfl | exact want_some rfl rfl rfl rfl)) (fun w => by go_simp) hS ?_
    simp only [Act.put, List.setIfInBounds_toArray, List.set_cons_zero, List.set_cons_succ]
    refine reg_free 5 (v := .string ⟨#[0]⟩) rfl (by kernel_rfl) (by kernel_rfl) (by kernel_rfl) (fun _ _ _ h => h) (by (first | exact want_none rfl | exact want_some rfl rfl rfl rfl)) (fun w => by go_simp) hS ?_
    simp only [Act.put, List.setIfInBounds_toArray, List.set_cons_zero, List.set_cons_succ]
    refine reg_free 6 (v := .int .i64 1) rfl (by kernel_rfl) (by kernel_rfl) (by kernel_rfl) (fun _ _ _ h => h) (by (first | exact want_none rfl | exact want_some rfl rfl rfl rfl)) (fun w => by go_simp) hS ?_
    simp only [Act.put, List.setIfInBounds_toArray, List.set_cons_zero, List.set_cons_succ]
    refine reg_free 7 (v := .int .i64 ((o : Int) + 1)) rfl (by kernel_rfl) (by kernel_rfl) (by kernel_rfl) (fun _ _ _ h => h) (by (first | exact want_none rfl | exact want_some rfl rfl rfl rfl)) (fun w => by go_simp) hS ?_
    simp only [Act.put, List.setIfInBounds_toArray, List.set_cons_zero, List.set_cons_succ]
    refine reg_free 8 (v := .string ⟨(bs.drop (o + 1)).toArray⟩) rfl (by kernel_rfl) (by kernel_rfl) (by kernel_rfl) (fun _ _ _ h => h) (by (first | exact want_none rfl | exact want_some rfl rfl rfl rfl)) (fun w => by exact run_str_l w (o + 1) rfl rfl rfl (Int.natCast_add o 1).symm hlt) hS ?_
    simp only [Act.put, List.setIfInBounds_toArray, List.set_cons_zero, List.set_cons_succ]
    refine reg_free 9 (v := .string ⟨(bs.take o).toArray⟩) rfl (by kernel_rfl) (by kernel_rfl) (by kernel_rfl) (fun _ _ _ h => h) (by (first | exact want_none rfl | exact want_some rfl rfl rfl rfl)) (fun w => by go_simp) hS ?_
    simp only [Act.put, List.setIfInBounds_toArray, List.set_cons_zero, List.set_cons_succ]
    refine reg_free 10 (v := .string ⟨(bs.drop (o + 1)).toArray⟩) rfl (by kernel_rfl) (by kernel_rfl) (by kernel_rfl) (fun _ _ _ h => h) (by (first | exact want_none rfl | exact want_some rfl rfl rfl rfl)) (fun w => by go_simp) hS ?_
    simp only [Act.put, List.setIfInBounds_toArray, List.set_cons_zero, List.set_cons_succ]
    refine reg_free 11 (v := .bool true) rfl (by kernel_rfl) (by kernel_rfl) (by kernel_rfl) (fun _ _ _ h => h) (by (first | exact want_none rfl | exact want_some rfl rfl rfl rfl)) (fun w => by go_simp) hS ?_
    simp only [Act.put, List.setIfInBounds_toArray, List.set_cons_zero, List.set_cons_succ]
    refine reg_done (by kernel_rfl) ?_
    go_wp2
    go_ret3
    exact ⟨⟨_, _, by rw [htx.out]; rfl⟩, hMd.below⟩
end Go.Proofs.Ytfpfdnckibaldaa.H
