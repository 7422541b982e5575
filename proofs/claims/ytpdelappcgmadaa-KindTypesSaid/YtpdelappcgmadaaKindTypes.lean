/- For every byte: what a type is, and whether it brings bytes, is the answer of the document. No condition. -/
import Derived.Test.YtpdelappcgmadaaPKindBackx1
namespace Go.Proofs.Ytpdelappcgmadaa.KT
open Go.RowKit Go.Proofs.Ytpdelappcgmadaa.PKindBack Go.Proofs.YtpdelappcgmadaaW.PrintWords Go.Proofs.YtpdelappcgmadaaW.PrintLast Go.Proofs.YtpdelappcgmadaaW.PrintMore

theorem knows_true : pannierlaw08_knows.f = some true := by decide +kernel

def Yes (w : World) (e : Ending) (w' : World) : Prop := e = .returned (.bool true) ∧ Drawn0 w w'

theorem yes_of (w : World) (n : Nat) : Drawn0 w (w.drewN n) := (Drawn0.refl w).step n


set_option maxHeartbeats 400000 in
theorem types_0 (w : World) : Calls Try.prog 3 #[.int .u8 0] w (Yes w) := by
  go_enter Try.func3, Try.ntmps3
  go_wp2_with (first | (go_at_call 14; (with_reducible refine (pannierlaw08_knows.calls true _ knows_true).mono ?_); rintro e w' ⟨rfl, ⟨nd, rfl⟩⟩) | (go_at_call 15; (with_reducible refine (kind_Class.calls 0 1 _ (by decide +kernel)).mono ?_); rintro e w' ⟨rfl, ⟨nd, rfl⟩⟩) | (go_at_call 16; (with_reducible refine (kind_Kind.calls 0 1 _ (by decide +kernel)).mono ?_); rintro e w' ⟨rfl, ⟨nd, rfl⟩⟩) | (go_at_call 17; (with_reducible refine (kind_Takes.calls 0 true _ (by decide +kernel)).mono ?_); rintro e w' ⟨rfl, ⟨nd, rfl⟩⟩))
  go_ret
  exact ⟨rfl, yes_of _ _⟩

set_option maxHeartbeats 400000 in
theorem types_48 (w : World) : Calls Try.prog 3 #[.int .u8 48] w (Yes w) := by
  go_enter Try.func3, Try.ntmps3
  go_wp2_with (first | (go_at_call 14; (with_reducible refine (pannierlaw08_knows.calls true _ knows_true).mono ?_); rintro e w' ⟨rfl, ⟨nd, rfl⟩⟩) | (go_at_call 15; (with_reducible refine (kind_Class.calls 48 1 _ (by decide +kernel)).mono ?_); rintro e w' ⟨rfl, ⟨nd, rfl⟩⟩) | (go_at_call 16; (with_reducible refine (kind_Kind.calls 48 1 _ (by decide +kernel)).mono ?_); rintro e w' ⟨rfl, ⟨nd, rfl⟩⟩) | (go_at_call 17; (with_reducible refine (kind_Takes.calls 48 true _ (by decide +kernel)).mono ?_); rintro e w' ⟨rfl, ⟨nd, rfl⟩⟩))
  go_ret
  exact ⟨rfl, yes_of _ _⟩

set_option maxHeartbeats 400000 in
theorem types_55 (w : World) : Calls Try.prog 3 #[.int .u8 55] w (Yes w) := by
  go_enter Try.func3, Try.ntmps3
  go_wp2_with (first | (go_at_call 14; (with_reducible refine (pannierlaw08_knows.calls true _ knows_true).mono ?_); rintro e w' ⟨rfl, ⟨nd, rfl⟩⟩) | (go_at_call 15; (with_reducible refine (kind_Class.calls 55 1 _ (by decide +kernel)).mono ?_); rintro e w' ⟨rfl, ⟨nd, rfl⟩⟩) | (go_at_call 16; (with_reducible refine (kind_Kind.calls 55 1 _ (by decide +kernel)).mono ?_); rintro e w' ⟨rfl, ⟨nd, rfl⟩⟩) | (go_at_call 17; (with_reducible refine (kind_Takes.calls 55 true _ (by decide +kernel)).mono ?_); rintro e w' ⟨rfl, ⟨nd, rfl⟩⟩))
  go_ret
  exact ⟨rfl, yes_of _ _⟩

set_option maxHeartbeats 400000 in
theorem types_49 (w : World) : Calls Try.prog 3 #[.int .u8 49] w (Yes w) := by
  go_enter Try.func3, Try.ntmps3
  go_wp2_with (first | (go_at_call 14; (with_reducible refine (pannierlaw08_knows.calls true _ knows_true).mono ?_); rintro e w' ⟨rfl, ⟨nd, rfl⟩⟩) | (go_at_call 15; (with_reducible refine (kind_Class.calls 49 1 _ (by decide +kernel)).mono ?_); rintro e w' ⟨rfl, ⟨nd, rfl⟩⟩) | (go_at_call 16; (with_reducible refine (kind_Kind.calls 49 2 _ (by decide +kernel)).mono ?_); rintro e w' ⟨rfl, ⟨nd, rfl⟩⟩) | (go_at_call 17; (with_reducible refine (kind_Takes.calls 49 false _ (by decide +kernel)).mono ?_); rintro e w' ⟨rfl, ⟨nd, rfl⟩⟩))
  go_ret
  exact ⟨rfl, yes_of _ _⟩

set_option maxHeartbeats 400000 in
theorem types_50 (w : World) : Calls Try.prog 3 #[.int .u8 50] w (Yes w) := by
  go_enter Try.func3, Try.ntmps3
  go_wp2_with (first | (go_at_call 14; (with_reducible refine (pannierlaw08_knows.calls true _ knows_true).mono ?_); rintro e w' ⟨rfl, ⟨nd, rfl⟩⟩) | (go_at_call 15; (with_reducible refine (kind_Class.calls 50 1 _ (by decide +kernel)).mono ?_); rintro e w' ⟨rfl, ⟨nd, rfl⟩⟩) | (go_at_call 16; (with_reducible refine (kind_Kind.calls 50 3 _ (by decide +kernel)).mono ?_); rintro e w' ⟨rfl, ⟨nd, rfl⟩⟩) | (go_at_call 17; (with_reducible refine (kind_Takes.calls 50 false _ (by decide +kernel)).mono ?_); rintro e w' ⟨rfl, ⟨nd, rfl⟩⟩))
  go_ret
  exact ⟨rfl, yes_of _ _⟩

set_option maxHeartbeats 400000 in
theorem types_53 (w : World) : Calls Try.prog 3 #[.int .u8 53] w (Yes w) := by
  go_enter Try.func3, Try.ntmps3
  go_wp2_with (first | (go_at_call 14; (with_reducible refine (pannierlaw08_knows.calls true _ knows_true).mono ?_); rintro e w' ⟨rfl, ⟨nd, rfl⟩⟩) | (go_at_call 15; (with_reducible refine (kind_Class.calls 53 1 _ (by decide +kernel)).mono ?_); rintro e w' ⟨rfl, ⟨nd, rfl⟩⟩) | (go_at_call 16; (with_reducible refine (kind_Kind.calls 53 4 _ (by decide +kernel)).mono ?_); rintro e w' ⟨rfl, ⟨nd, rfl⟩⟩) | (go_at_call 17; (with_reducible refine (kind_Takes.calls 53 false _ (by decide +kernel)).mono ?_); rintro e w' ⟨rfl, ⟨nd, rfl⟩⟩))
  go_ret
  exact ⟨rfl, yes_of _ _⟩

set_option maxHeartbeats 400000 in
theorem types_120 (w : World) : Calls Try.prog 3 #[.int .u8 120] w (Yes w) := by
  go_enter Try.func3, Try.ntmps3
  go_wp2_with (first | (go_at_call 14; (with_reducible refine (pannierlaw08_knows.calls true _ knows_true).mono ?_); rintro e w' ⟨rfl, ⟨nd, rfl⟩⟩) | (go_at_call 15; (with_reducible refine (kind_Class.calls 120 2 _ (by decide +kernel)).mono ?_); rintro e w' ⟨rfl, ⟨nd, rfl⟩⟩) | (go_at_call 16; (with_reducible refine (kind_Kind.calls 120 0 _ (by decide +kernel)).mono ?_); rintro e w' ⟨rfl, ⟨nd, rfl⟩⟩) | (go_at_call 17; (with_reducible refine (kind_Takes.calls 120 true _ (by decide +kernel)).mono ?_); rintro e w' ⟨rfl, ⟨nd, rfl⟩⟩))
  go_ret
  exact ⟨rfl, yes_of _ _⟩

set_option maxHeartbeats 400000 in
theorem types_103 (w : World) : Calls Try.prog 3 #[.int .u8 103] w (Yes w) := by
  go_enter Try.func3, Try.ntmps3
  go_wp2_with (first | (go_at_call 14; (with_reducible refine (pannierlaw08_knows.calls true _ knows_true).mono ?_); rintro e w' ⟨rfl, ⟨nd, rfl⟩⟩) | (go_at_call 15; (with_reducible refine (kind_Class.calls 103 3 _ (by decide +kernel)).mono ?_); rintro e w' ⟨rfl, ⟨nd, rfl⟩⟩) | (go_at_call 16; (with_reducible refine (kind_Kind.calls 103 0 _ (by decide +kernel)).mono ?_); rintro e w' ⟨rfl, ⟨nd, rfl⟩⟩) | (go_at_call 17; (with_reducible refine (kind_Takes.calls 103 true _ (by decide +kernel)).mono ?_); rintro e w' ⟨rfl, ⟨nd, rfl⟩⟩))
  go_ret
  exact ⟨rfl, yes_of _ _⟩

set_option maxHeartbeats 400000 in
theorem types_76 (w : World) : Calls Try.prog 3 #[.int .u8 76] w (Yes w) := by
  go_enter Try.func3, Try.ntmps3
  go_wp2_with (first | (go_at_call 14; (with_reducible refine (pannierlaw08_knows.calls true _ knows_true).mono ?_); rintro e w' ⟨rfl, ⟨nd, rfl⟩⟩) | (go_at_call 15; (with_reducible refine (kind_Class.calls 76 4 _ (by decide +kernel)).mono ?_); rintro e w' ⟨rfl, ⟨nd, rfl⟩⟩) | (go_at_call 16; (with_reducible refine (kind_Kind.calls 76 0 _ (by decide +kernel)).mono ?_); rintro e w' ⟨rfl, ⟨nd, rfl⟩⟩) | (go_at_call 17; (with_reducible refine (kind_Takes.calls 76 true _ (by decide +kernel)).mono ?_); rintro e w' ⟨rfl, ⟨nd, rfl⟩⟩))
  go_ret
  exact ⟨rfl, yes_of _ _⟩

set_option maxHeartbeats 400000 in
theorem types_75 (w : World) : Calls Try.prog 3 #[.int .u8 75] w (Yes w) := by
  go_enter Try.func3, Try.ntmps3
  go_wp2_with (first | (go_at_call 14; (with_reducible refine (pannierlaw08_knows.calls true _ knows_true).mono ?_); rintro e w' ⟨rfl, ⟨nd, rfl⟩⟩) | (go_at_call 15; (with_reducible refine (kind_Class.calls 75 5 _ (by decide +kernel)).mono ?_); rintro e w' ⟨rfl, ⟨nd, rfl⟩⟩) | (go_at_call 16; (with_reducible refine (kind_Kind.calls 75 0 _ (by decide +kernel)).mono ?_); rintro e w' ⟨rfl, ⟨nd, rfl⟩⟩) | (go_at_call 17; (with_reducible refine (kind_Takes.calls 75 true _ (by decide +kernel)).mono ?_); rintro e w' ⟨rfl, ⟨nd, rfl⟩⟩))
  go_ret
  exact ⟨rfl, yes_of _ _⟩

theorem rest {a : Int} (h1 : a ≠ 120) (h2 : a ≠ 103) (h3 : a ≠ 76) (h4 : a ≠ 75) (g0 : a ≠ 0) (g1 : a ≠ 48) (g2 : a ≠ 55) (g3 : a ≠ 49) (g4 : a ≠ 50) (g5 : a ≠ 53) :
    kind_Class.f a = some 0 ∧ kind_Kind.f a = some 0 ∧ kind_Takes.f a = some false := by
  have hk : kind_Kind.f a = some 0 := by
    unfold kind_Kind.f
    rw [if_neg g0, if_neg g1, if_neg g2, if_neg g3, if_neg g4, if_neg g5]
  have hc : kind_Class.f a = some 0 := by
    unfold kind_Class.f
    rw [if_neg h1, if_neg h2, if_neg h3, if_neg h4, hk]
    rfl
  refine ⟨hc, hk, ?_⟩
  unfold kind_Takes.f
  rw [hc, hk]
  rfl

set_option maxHeartbeats 400000 in
theorem types_other (w : World) (a : Int) (b1 : (a == 120) = false) (b2 : (a == 103) = false) (b3 : (a == 76) = false) (b4 : (a == 75) = false)
    (d0 : (a == 0) = false) (d1 : (a == 48) = false) (d2 : (a == 55) = false) (d3 : (a == 49) = false) (d4 : (a == 50) = false) (d5 : (a == 53) = false)
    (hc : Hid (kind_Class.f a = some 0)) (hk : Hid (kind_Kind.f a = some 0)) (ht : Hid (kind_Takes.f a = some false)) :
    Calls Try.prog 3 #[.int .u8 a] w (Yes w) := by
  go_enter Try.func3, Try.ntmps3
  go_wp2_with (first | (go_at_call 14; (with_reducible refine (pannierlaw08_knows.calls true _ knows_true).mono ?_); rintro e w' ⟨rfl, ⟨nd, rfl⟩⟩) | (go_at_call 15; (with_reducible refine (kind_Class.calls a 0 _ hc.out).mono ?_); rintro e w' ⟨rfl, ⟨nd, rfl⟩⟩) | (go_at_call 16; (with_reducible refine (kind_Kind.calls a 0 _ hk.out).mono ?_); rintro e w' ⟨rfl, ⟨nd, rfl⟩⟩) | (go_at_call 17; (with_reducible refine (kind_Takes.calls a false _ ht.out).mono ?_); rintro e w' ⟨rfl, ⟨nd, rfl⟩⟩))
  go_ret
  exact ⟨rfl, yes_of _ _⟩

theorem walk (a : Int) (w : World) : Calls Try.prog 3 #[.int .u8 a] w fun e w' => e = .returned (.bool true) ∧ Below w.heap.size w w' := by
  have h : Calls Try.prog 3 #[.int .u8 a] w (Yes w) := by
    by_cases h0 : a = 120
    · subst h0; exact types_120 w
    by_cases h1 : a = 103
    · subst h1; exact types_103 w
    by_cases h2 : a = 76
    · subst h2; exact types_76 w
    by_cases h3 : a = 75
    · subst h3; exact types_75 w
    by_cases h4 : a = 0
    · subst h4; exact types_0 w
    by_cases h5 : a = 48
    · subst h5; exact types_48 w
    by_cases h6 : a = 55
    · subst h6; exact types_55 w
    by_cases h7 : a = 49
    · subst h7; exact types_49 w
    by_cases h8 : a = 50
    · subst h8; exact types_50 w
    by_cases h9 : a = 53
    · subst h9; exact types_53 w
    obtain ⟨hc, hk, ht⟩ := rest h0 h1 h2 h3 h4 h5 h6 h7 h8 h9
    exact types_other w a (beq_eq_false_iff_ne.mpr h0) (beq_eq_false_iff_ne.mpr h1) (beq_eq_false_iff_ne.mpr h2) (beq_eq_false_iff_ne.mpr h3) (beq_eq_false_iff_ne.mpr h4) (beq_eq_false_iff_ne.mpr h5) (beq_eq_false_iff_ne.mpr h6) (beq_eq_false_iff_ne.mpr h7) (beq_eq_false_iff_ne.mpr h8) (beq_eq_false_iff_ne.mpr h9) hc hk ht
  exact h.mono fun _ _ ⟨he, hd⟩ => ⟨he, hd.below⟩

end Go.Proofs.Ytpdelappcgmadaa.KT
