/- Whether so much may have come out of what was received, as the program says it: as numbers of any size. Conditions: limits that may be, numbers from nought on below 2^63. -/
import Derived.Test.YtpdelappcgmadaaQB
import Derived.Laws.MathBits
namespace Go.Proofs.Ytpdelappcgmadaa.QR
open Go.RowKit Go.Proofs.Ytpdelappcgmadaa.PQuotaRatios Go.Proofs.Ytpdelappcgmadaa.QB

theorem mul64 (x y : Int) (hx0 : 0 ≤ x) (hx : x < 18446744073709551616) (hy0 : 0 ≤ y) (hy : y < 18446744073709551616) : bits_Mul64.f x y = some (x * y / 18446744073709551616, x * y % 18446744073709551616) := by
  unfold bits_Mul64.f
  rw [and_low32 x hx0 hx, and_low32 y hy0 hy]
  simp only [IntKind.wrap_u64]
  rw [and_low32 _ (by omega) (by omega), mul64_arith x y hx0 hx hy0 hy]

/-- Too much came out. -/
def Over (l4 l5 l6 a b : Int) : Prop := l6 < b ∧ a * l4 < (b - l6) * l5

section
variable {l0 l1 l2 l3 l4 l5 l6 a b : Int}

theorem ratio_range (h : a < 0 ∨ b < 0) : quota_Ratio.f 1 l0 l1 l2 l3 l4 l5 l6 a b = some 1 := by
  simp only [quota_Ratio.f, quota_Ratio.j0]
  by_cases h1 : a < 0
  · rw [if_pos h1]; rfl
  · rw [if_neg h1, if_pos (decide_eq_true (by omega))]

theorem pair_gt (p q : Int) : (p / 18446744073709551616 > q / 18446744073709551616 ∨ p / 18446744073709551616 = q / 18446744073709551616 ∧ p % 18446744073709551616 > q % 18446744073709551616) ↔ q < p := by omega

theorem ratio_low (h1 : 0 ≤ a) (h2 : 0 ≤ b) (h : b ≤ l6) : quota_Ratio.f 1 l0 l1 l2 l3 l4 l5 l6 a b = some 0 := by
  simp only [quota_Ratio.f, quota_Ratio.j0]
  rw [if_neg (by omega), decide_eq_false (by omega), if_neg (by simp), if_pos h]

theorem ratio_high (hg : LGood l0 l1 l2 l3 l4 l5 l6) (h1 : 0 ≤ a) (h2 : 0 ≤ b) (h3 : a < 9223372036854775808) (h4 : b < 9223372036854775808) (h : l6 < b) :
    quota_Ratio.f 1 l0 l1 l2 l3 l4 l5 l6 a b = some (if a * l4 < (b - l6) * l5 then 151 else 0) := by
  unfold LGood at hg
  simp only [quota_Ratio.f, quota_Ratio.j0]
  rw [if_neg (by omega), decide_eq_false (by omega), if_neg (by simp), if_neg (by omega), wrap_in (n := b - l6) (by omega) (by omega)]
  simp only [IntKind.wrap_u64]
  rw [Int.emod_eq_of_lt (a := b - l6) (by omega) (by omega), Int.emod_eq_of_lt (a := l5) (by omega) (by omega), Int.emod_eq_of_lt (a := a) (by omega) (by omega), Int.emod_eq_of_lt (a := l4) (by omega) (by omega)]
  rw [mul64 (b - l6) l5 (by omega) (by omega) (by omega) (by omega), mul64 a l4 (by omega) (by omega) (by omega) (by omega)]
  simp only [Option.bind_some]
  have hp := pair_gt ((b - l6) * l5) (a * l4)
  generalize (b - l6) * l5 = p at *
  generalize a * l4 = q at *
  by_cases c : q < p
  · rw [if_pos c]
    have := hp.2 c
    by_cases c1 : p / 18446744073709551616 > q / 18446744073709551616
    · rw [if_pos c1]
    · rw [if_neg c1, if_pos (by omega), if_pos (by omega)]
  · rw [if_neg c]
    rw [if_neg (by omega)]
    by_cases c1 : p / 18446744073709551616 = q / 18446744073709551616
    · rw [if_pos c1, if_neg (by omega)]
    · rw [if_neg c1]

theorem ratio_ok (hg : LGood l0 l1 l2 l3 l4 l5 l6) (h1 : 0 ≤ a) (h2 : 0 ≤ b) (h3 : a < 9223372036854775808) (h4 : b < 9223372036854775808) (h : ¬ Over l4 l5 l6 a b) : quota_Ratio.f 1 l0 l1 l2 l3 l4 l5 l6 a b = some 0 := by
  by_cases c : b ≤ l6
  · exact ratio_low h1 h2 c
  · rw [ratio_high hg h1 h2 h3 h4 (by omega), if_neg (fun e => h ⟨by omega, e⟩)]

theorem ratio_over (hg : LGood l0 l1 l2 l3 l4 l5 l6) (h1 : 0 ≤ a) (h2 : 0 ≤ b) (h3 : a < 9223372036854775808) (h4 : b < 9223372036854775808) (h : Over l4 l5 l6 a b) : quota_Ratio.f 1 l0 l1 l2 l3 l4 l5 l6 a b = some 151 := by
  rw [ratio_high hg h1 h2 h3 h4 h.1, if_pos h.2]

/-- More received, or less that came out: not refused either. -/
theorem over_mono {c d m6 : Int} (hg : LGood l0 l1 l2 l3 l4 l5 l6) (hac : a ≤ c) (hbd : d ≤ b) (hm : l6 ≤ m6) (h : ¬ Over l4 l5 l6 a b) : ¬ Over l4 l5 m6 c d := by
  unfold LGood at hg
  rintro ⟨h1, h2⟩
  refine h ⟨by omega, ?_⟩
  have e1 : a * l4 ≤ c * l4 := Int.mul_le_mul_of_nonneg_right hac (by omega)
  have e2 : (d - m6) * l5 ≤ (b - l6) * l5 := Int.mul_le_mul_of_nonneg_right (by omega) (by omega)
  omega
end
end Go.Proofs.Ytpdelappcgmadaa.QR
