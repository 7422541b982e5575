/- What the small check of the statements on ledgers comes to, and what the ledger functions answer. No condition. -/
import Derived.Test.YtpdelappcgmadaaPQuotaRatiosx
import Derived.Test.YtpdelappcgmadaaMem
set_option linter.unusedSimpArgs false
namespace Go.Proofs.Ytpdelappcgmadaa.QB
open Go.RowKit Go.Proofs.Ytpdelappcgmadaa.PQuotaRatios Go.Proofs.Ytpdelappcgmadaa.M Go.Proofs.YtpdelappcgmadaaW.PrintWords Go.Proofs.YtpdelappcgmadaaW.PrintLast Go.Proofs.YtpdelappcgmadaaW.PrintMore

theorem row29 : RowTy Try.prog 29 7 := .of (by kernel_rfl)
theorem row32 : RowTy Try.prog 32 11 := .of (by kernel_rfl)
theorem zero32 : zeroIs Try.prog 32 (.agg #[.int .i64 0, .int .i64 0, .int .i64 0, .int .i64 0, .int .i64 0, .int .i64 0, .int .i64 0, .int .i64 0, .int .i64 0, .int .i64 0, .int .i64 0]) := rfl
theorem zero29 : zeroIs Try.prog 29 (.agg #[.int .i64 0, .int .i64 0, .int .i64 0, .int .i64 0, .int .i64 0, .int .i64 0, .int .i64 0]) := rfl
theorem one2 : OneTy Try.prog 2 := .of (by kernel_rfl)
theorem one3 : OneTy Try.prog 3 := .of (by kernel_rfl)

def Yes (w0 : World) (e : Ending) (w' : World) : Prop := e = .returned (.bool true) ∧ Below w0.heap.size w0 w'

theorem hid_ {p : Prop} (h : p) : Hid p := h

set_option maxHeartbeats 2000000 in
theorem counts_mem (w0 w : World) (hM : Mem w0 w [] []) : Calls Try.prog 19 #[] w (Yes w0) := by
  go_enter Try.func19, Try.ntmps19
  go_wp2_with (first
    | ((with_reducible refine wpl ?_); apply al_box (hM := hM); rfl; (first | exact want_none rfl | exact want_some rfl rfl rfl rfl); (first | (focus (go_simp; done)) | (focus (go_simp; rfl))); intro g1 w1 hM1; clear hM; dsimp only [Value.cells] at hM1; have hM := hM1; clear hM1; simp only [Act.put, List.setIfInBounds_toArray, List.set_cons_zero, List.set_cons_succ])
    | ((with_reducible refine wpl ?_); apply al_zero (hM := hM); rfl; (first | exact want_none rfl | exact want_some rfl rfl rfl rfl); (first | exact zero32 | exact zero29); intro g1 w1 hM1; clear hM; dsimp only [Value.cells] at hM1; have hM := hM1; clear hM1; simp only [Act.put, List.setIfInBounds_toArray, List.set_cons_zero, List.set_cons_succ])
    | ((with_reducible refine wpl ?_); apply ld_row (hM := hM); rfl; (first | exact want_none rfl | exact want_some rfl rfl rfl rfl); rfl; (first | exact .head _ _ | exact .tail (.head _ _) | exact .tail (.tail (.head _ _)) | exact .tail (.tail (.tail (.head _ _))) | exact .tail (.tail (.tail (.tail (.head _ _))))); (first | exact row29 | exact row32); simp only [Act.put, List.setIfInBounds_toArray, List.set_cons_zero, List.set_cons_succ])
    | ((with_reducible refine wpl ?_); apply st_row (hM := hM); rfl; (first | exact want_none rfl | exact want_some rfl rfl rfl rfl); rfl; (first | (focus (go_simp; done)) | (focus (go_simp; rfl))); (first | exact .head _ _ | exact .tail (.head _ _) | exact .tail (.tail (.head _ _)) | exact .tail (.tail (.tail (.head _ _))) | exact .tail (.tail (.tail (.tail (.head _ _))))); rfl; rfl; (first | exact row29 | exact row32); intro w1 hM1; clear hM; (try simp only [List.setIfInBounds_toArray, List.set_cons_zero, List.set_cons_succ] at hM1); have hM := hM1; clear hM1; simp only [Act.put, List.setIfInBounds_toArray, List.set_cons_zero, List.set_cons_succ])
    | ((with_reducible refine wpl ?_); apply ld_one (hM := hM); rfl; (first | exact want_none rfl | exact want_some rfl rfl rfl rfl); rfl; (first | exact .head _ _ | exact .tail (.head _ _) | exact .tail (.tail (.head _ _)) | exact .tail (.tail (.tail (.head _ _))) | exact .tail (.tail (.tail (.tail (.head _ _))))); (first | (focus (simp only [List.getElem?_toArray, List.getElem?_cons_zero, List.getElem?_cons_succ]; rfl)) | rfl); (first | exact one2 | exact one3); simp only [Act.put, List.setIfInBounds_toArray, List.set_cons_zero, List.set_cons_succ])
    | ((with_reducible refine wpl ?_); apply st_cell (hM := hM); rfl; (first | exact want_none rfl | exact want_some rfl rfl rfl rfl); rfl; (first | (focus (go_simp; done)) | (focus (go_simp; rfl))); (first | exact .head _ _ | exact .tail (.head _ _) | exact .tail (.tail (.head _ _)) | exact .tail (.tail (.tail (.head _ _))) | exact .tail (.tail (.tail (.tail (.head _ _))))); (focus (simp; done)); rfl; (first | exact one2 | exact one3); intro w1 hM1; clear hM; (try simp only [List.setIfInBounds_toArray, List.set_cons_zero, List.set_cons_succ] at hM1); have hM := hM1; clear hM1; simp only [Act.put, List.setIfInBounds_toArray, List.set_cons_zero, List.set_cons_succ])
    | (go_at_call 20; (with_reducible refine (quota_New.calls 9 100 5 3 20 2 1 10 100 5 3 20 2 1 10 0 0 0 0 0 _ (by kernel_rfl)).mono ?_); rintro e w3 ⟨rfl, hb⟩; replace hM := hM.step hb; clear hb)
    | (go_at_call 23; (with_reducible refine (quota_Ledger_Hold.calls 9 100 5 3 20 2 1 10 0 0 0 0 60 2 100 5 3 20 2 1 10 0 60 0 2 0 _ (by kernel_rfl)).mono ?_); rintro e w3 ⟨rfl, hb⟩; replace hM := hM.step hb; clear hb)
    | (go_at_call 23; (with_reducible refine (quota_Ledger_Hold.calls 9 100 5 3 20 2 1 10 0 60 0 2 41 0 100 5 3 20 2 1 10 0 60 0 2 150 _ (by kernel_rfl)).mono ?_); rintro e w3 ⟨rfl, hb⟩; replace hM := hM.step hb; clear hb)
    | (go_at_call 25; (with_reducible refine (quota_Ledger_Settle.calls 9 100 5 3 20 2 1 10 0 60 0 2 60 2 50 2 100 5 3 20 2 1 10 50 0 2 0 0 _ (by kernel_rfl)).mono ?_); rintro e w3 ⟨rfl, hb⟩; replace hM := hM.step hb; clear hb)
    | (go_at_call 26; (with_reducible refine (quota_Ratio.calls 9 100 5 3 20 2 1 10 5 20 0 _ (by kernel_rfl)).mono ?_); rintro e w3 ⟨rfl, hb⟩; replace hM := hM.step hb; clear hb)
    | (go_at_call 26; (with_reducible refine (quota_Ratio.calls 9 100 5 3 20 2 1 10 5 21 151 _ (by kernel_rfl)).mono ?_); rintro e w3 ⟨rfl, hb⟩; replace hM := hM.step hb; clear hb))
  go_ret
  exact ⟨rfl, hM.below⟩

/-- Limits that may be. -/
def LGood (l0 l1 l2 l3 l4 l5 l6 : Int) : Prop := 0 ≤ l0 ∧ l0 < 4611686018427387904 ∧ 0 ≤ l1 ∧ l1 < 4611686018427387904 ∧ 0 ≤ l2 ∧ 0 ≤ l3 ∧ 0 ≤ l4 ∧ l4 ≤ 2147483648 ∧ 1 ≤ l5 ∧ l5 ≤ 2147483648 ∧ 0 ≤ l6 ∧ l6 < 4611686018427387904

section
variable {l0 l1 l2 l3 l4 l5 l6 : Int}

theorem good_yes (h : LGood l0 l1 l2 l3 l4 l5 l6) : pannierlaw15_good.f l0 l1 l2 l3 l4 l5 l6 = some true := by
  unfold LGood at h
  unfold pannierlaw15_good.f
  repeat (first | rw [if_pos (by omega)] | (congr 1; exact decide_eq_true (by omega)))

theorem good_no (h : ¬ LGood l0 l1 l2 l3 l4 l5 l6) : pannierlaw15_good.f l0 l1 l2 l3 l4 l5 l6 = some false := by
  unfold LGood at h
  unfold pannierlaw15_good.f
  repeat' split
  all_goals first | rfl | (congr 1; exact decide_eq_false (by omega))

theorem check_yes (h : LGood l0 l1 l2 l3 l4 l5 l6) : quota_Check.f 6 l0 l1 l2 l3 l4 l5 l6 = some 0 := by
  unfold LGood at h
  have b0 : decide (l0 > 4611686018427387903) = false := decide_eq_false (by omega)
  have b1 : decide (l1 > 4611686018427387903) = false := decide_eq_false (by omega)
  have b3 : decide (l3 < 0) = false := decide_eq_false (by omega)
  have b4 : decide (l4 > 2147483648) = false := decide_eq_false (by omega)
  have b5 : decide (l5 > 2147483648) = false := decide_eq_false (by omega)
  simp only [quota_Check.f, quota_Check.j0, quota_Check.j1, quota_Check.j2, quota_Check.j3, quota_Check.j4, b0, b1, b3, b4, b5, Bool.false_eq_true, if_false]
  rw [if_neg (by omega), if_neg (by omega), if_neg (by omega), if_neg (by omega), if_neg (by omega), if_neg (by omega), if_neg (by omega)]

theorem check_no (h : ¬ LGood l0 l1 l2 l3 l4 l5 l6) : quota_Check.f 6 l0 l1 l2 l3 l4 l5 l6 = some 1 := by
  unfold LGood at h
  simp only [quota_Check.f, quota_Check.j0, quota_Check.j1, quota_Check.j2, quota_Check.j3, quota_Check.j4, decide_eq_true_eq, if_true]
  by_cases c0 : l0 < 0
  · rw [if_pos c0]
  rw [if_neg c0]
  by_cases c1 : l0 > 4611686018427387903
  · rw [if_pos c1, if_pos c1]
  rw [if_neg c1]
  by_cases c2 : l1 < 0
  · rw [if_pos c2]
  rw [if_neg c2]
  by_cases c3 : l1 > 4611686018427387903
  · rw [if_pos c3, if_pos c3]
  rw [if_neg c3]
  by_cases c4 : l2 < 0
  · rw [if_pos c4, if_pos c4]
  rw [if_neg c4]
  by_cases c5 : l3 < 0
  · rw [if_pos c5]
  rw [if_neg c5]
  by_cases c6 : l4 < 0
  · rw [if_pos c6]
  rw [if_neg c6]
  by_cases c7 : l4 > 2147483648
  · rw [if_pos c7]
  rw [if_neg c7]
  by_cases c8 : l5 < 1
  · rw [if_pos c8]
  rw [if_neg c8]
  by_cases c9 : l5 > 2147483648
  · rw [if_pos c9]
  rw [if_neg c9]
  by_cases c10 : l6 < 0
  · rw [if_pos c10]
  rw [if_neg c10]
  by_cases c11 : l6 > 4611686018427387903
  · rw [if_pos c11]
  rw [if_neg c11]
  exfalso; omega

theorem new_yes (h : LGood l0 l1 l2 l3 l4 l5 l6) : quota_New.f 6 l0 l1 l2 l3 l4 l5 l6 = some (l0, l1, l2, l3, l4, l5, l6, 0, 0, 0, 0, 0) := by
  unfold quota_New.f
  rw [check_yes h]
  rfl

theorem new_no (h : ¬ LGood l0 l1 l2 l3 l4 l5 l6) : quota_New.f 6 l0 l1 l2 l3 l4 l5 l6 = some (0, 0, 0, 0, 0, 0, 0, 0, 0, 0, 0, 1) := by
  unfold quota_New.f
  rw [check_no h]
  rfl

variable {hb hh hi hj a b c d : Int}

/-- A ledger that may be: what it has and holds is within its limits. -/
def Led (l0 l1 hb hh hi hj : Int) : Prop := 0 ≤ hb ∧ 0 ≤ hh ∧ 0 ≤ hi ∧ 0 ≤ hj ∧ hb + hh ≤ l0 ∧ hi + hj ≤ l1 ∧ l0 < 4611686018427387904 ∧ l1 < 4611686018427387904

theorem wrap_in {n : Int} (h1 : -9223372036854775808 ≤ n) (h2 : n ≤ 9223372036854775807) : wrap64 n = n := by unfold wrap64; omega

theorem hold_range (h : a < 0 ∨ b < 0) : quota_Ledger_Hold.f 1 l0 l1 l2 l3 l4 l5 l6 hb hh hi hj a b = some (l0, l1, l2, l3, l4, l5, l6, hb, hh, hi, hj, 1) := by
  simp only [quota_Ledger_Hold.f, quota_Ledger_Hold.j0]
  by_cases h1 : a < 0
  · rw [if_pos h1]; rfl
  · rw [if_neg h1, if_pos (decide_eq_true (by omega))]

theorem hold_quota (hq : Led l0 l1 hb hh hi hj) (h1 : 0 ≤ a) (h2 : 0 ≤ b) (h : l0 - hb - hh < a ∨ l1 - hi - hj < b) : quota_Ledger_Hold.f 1 l0 l1 l2 l3 l4 l5 l6 hb hh hi hj a b = some (l0, l1, l2, l3, l4, l5, l6, hb, hh, hi, hj, 150) := by
  unfold Led at hq
  simp only [quota_Ledger_Hold.f, quota_Ledger_Hold.j0]
  rw [if_neg (by omega), decide_eq_false (by omega), wrap_in (n := l0 - hb) (by omega) (by omega), wrap_in (n := l0 - hb - hh) (by omega) (by omega), wrap_in (n := l1 - hi) (by omega) (by omega), wrap_in (n := l1 - hi - hj) (by omega) (by omega)]
  rw [if_neg (by simp)]
  by_cases h3 : a > l0 - hb - hh
  · rw [if_pos h3]
  · rw [if_neg h3, if_pos (by omega)]

theorem hold_ok (hq : Led l0 l1 hb hh hi hj) (h1 : 0 ≤ a) (h2 : 0 ≤ b) (h3 : a ≤ l0 - hb - hh) (h4 : b ≤ l1 - hi - hj) : quota_Ledger_Hold.f 1 l0 l1 l2 l3 l4 l5 l6 hb hh hi hj a b = some (l0, l1, l2, l3, l4, l5, l6, hb, hh + a, hi, hj + b, 0) := by
  unfold Led at hq
  simp only [quota_Ledger_Hold.f, quota_Ledger_Hold.j0]
  rw [if_neg (by omega), decide_eq_false (by omega), wrap_in (n := l0 - hb) (by omega) (by omega), wrap_in (n := l0 - hb - hh) (by omega) (by omega), wrap_in (n := l1 - hi) (by omega) (by omega), wrap_in (n := l1 - hi - hj) (by omega) (by omega), wrap_in (n := hh + a) (by omega) (by omega), wrap_in (n := hj + b) (by omega) (by omega)]
  rw [if_neg (by simp), if_neg (by omega), if_neg (by omega)]

theorem free_range (h : a < 0 ∨ b < 0 ∨ hh < a ∨ hj < b) : quota_Ledger_Free.f l0 l1 l2 l3 l4 l5 l6 hb hh hi hj a b = some (l0, l1, l2, l3, l4, l5, l6, hb, hh, hi, hj, 1) := by
  unfold quota_Ledger_Free.f
  repeat' split
  all_goals first | rfl | (exfalso; omega)

theorem free_ok (hq : Led l0 l1 hb hh hi hj) (h1 : 0 ≤ a) (h2 : 0 ≤ b) (h3 : a ≤ hh) (h4 : b ≤ hj) : quota_Ledger_Free.f l0 l1 l2 l3 l4 l5 l6 hb hh hi hj a b = some (l0, l1, l2, l3, l4, l5, l6, hb, hh - a, hi, hj - b, 0) := by
  unfold Led at hq
  unfold quota_Ledger_Free.f
  rw [if_neg (by omega), if_neg (by omega), if_neg (by omega), if_neg (by omega), wrap_in (n := hh - a) (by omega) (by omega), wrap_in (n := hj - b) (by omega) (by omega)]

theorem settle_range1 (h : a < 0 ∨ b < 0 ∨ hh < a ∨ hj < b) : quota_Ledger_Settle.f 1 l0 l1 l2 l3 l4 l5 l6 hb hh hi hj a b c d = some (l0, l1, l2, l3, l4, l5, l6, hb, hh, hi, hj, 1) := by
  unfold quota_Ledger_Settle.f
  rw [free_range h]
  rfl

theorem settle_range2 (hq : Led l0 l1 hb hh hi hj) (h1 : 0 ≤ a) (h2 : 0 ≤ b) (h3 : a ≤ hh) (h4 : b ≤ hj) (h : c < 0 ∨ d < 0) : quota_Ledger_Settle.f 1 l0 l1 l2 l3 l4 l5 l6 hb hh hi hj a b c d = some (l0, l1, l2, l3, l4, l5, l6, hb, hh, hi, hj, 1) := by
  unfold quota_Ledger_Settle.f
  rw [free_ok hq h1 h2 h3 h4]
  simp only [Option.bind_some, if_true, quota_Ledger_Settle.j0]
  by_cases h5 : c < 0
  · rw [if_pos h5]
  · rw [if_neg h5, if_pos (decide_eq_true (by omega))]

theorem settle_quota (hq : Led l0 l1 hb hh hi hj) (h1 : 0 ≤ a) (h2 : 0 ≤ b) (h3 : a ≤ hh) (h4 : b ≤ hj) (h5 : 0 ≤ c) (h6 : 0 ≤ d) (h : l0 - (hh - a) < c ∨ l1 - (hj - b) < d) : quota_Ledger_Settle.f 1 l0 l1 l2 l3 l4 l5 l6 hb hh hi hj a b c d = some (l0, l1, l2, l3, l4, l5, l6, hb, hh, hi, hj, 150) := by
  unfold quota_Ledger_Settle.f
  rw [free_ok hq h1 h2 h3 h4]
  unfold Led at hq
  simp only [Option.bind_some, if_true, quota_Ledger_Settle.j0]
  rw [if_neg (by omega), decide_eq_false (by omega), wrap_in (n := l0 - (hh - a)) (by omega) (by omega), wrap_in (n := l1 - (hj - b)) (by omega) (by omega), if_neg (by simp)]
  by_cases h7 : c > l0 - (hh - a)
  · rw [if_pos h7]
  · rw [if_neg h7, if_pos (by omega)]

theorem settle_ok (hq : Led l0 l1 hb hh hi hj) (h1 : 0 ≤ a) (h2 : 0 ≤ b) (h3 : a ≤ hh) (h4 : b ≤ hj) (h5 : 0 ≤ c) (h6 : 0 ≤ d) (h7 : c ≤ l0 - (hh - a)) (h8 : d ≤ l1 - (hj - b)) : quota_Ledger_Settle.f 1 l0 l1 l2 l3 l4 l5 l6 hb hh hi hj a b c d = some (l0, l1, l2, l3, l4, l5, l6, c, hh - a, d, hj - b, 0) := by
  unfold quota_Ledger_Settle.f
  rw [free_ok hq h1 h2 h3 h4]
  unfold Led at hq
  simp only [Option.bind_some, if_true, quota_Ledger_Settle.j0]
  rw [if_neg (by omega), decide_eq_false (by omega), wrap_in (n := l0 - (hh - a)) (by omega) (by omega), wrap_in (n := l1 - (hj - b)) (by omega) (by omega), if_neg (by simp), if_neg (by omega), if_neg (by omega)]
end

end Go.Proofs.Ytpdelappcgmadaa.QB
