/- For every byte: what stands ahead of an entry is of one of four types, and no thing. No condition. -/
import Derived.Test.YtpdelappcgmadaaPKindBackx1
namespace Go.Proofs.Ytpdelappcgmadaa.KA
open Go.RowKit Go.Proofs.Ytpdelappcgmadaa.PKindBack Go.Proofs.YtpdelappcgmadaaW.PrintWords Go.Proofs.YtpdelappcgmadaaW.PrintLast Go.Proofs.YtpdelappcgmadaaW.PrintMore

theorem knows_true : pannierlaw08_knows.f = some true := by decide +kernel

def Yes (w : World) (e : Ending) (w' : World) : Prop := e = .returned (.bool true) ∧ Drawn0 w w'

theorem yes_of (w : World) (n : Nat) : Drawn0 w (w.drewN n) := (Drawn0.refl w).step n


set_option maxHeartbeats 400000 in
theorem ahead_120 (w : World) : Calls Try.prog 7 #[.int .u8 120] w (Yes w) := by
  go_enter Try.func7, Try.ntmps7
  go_wp2_with (first | (go_at_call 14; (with_reducible refine (pannierlaw08_knows.calls true _ knows_true).mono ?_); rintro e w' ⟨rfl, ⟨nd, rfl⟩⟩) | (go_at_call 15; (with_reducible refine (kind_Class.calls 120 2 _ (by decide +kernel)).mono ?_); rintro e w' ⟨rfl, ⟨nd, rfl⟩⟩) | (go_at_call 16; (with_reducible refine (kind_Kind.calls 120 0 _ (by decide +kernel)).mono ?_); rintro e w' ⟨rfl, ⟨nd, rfl⟩⟩) | (go_at_call 17; (with_reducible refine (kind_Takes.calls 120 true _ (by decide +kernel)).mono ?_); rintro e w' ⟨rfl, ⟨nd, rfl⟩⟩))
  go_ret
  exact ⟨rfl, yes_of _ _⟩

set_option maxHeartbeats 400000 in
theorem ahead_103 (w : World) : Calls Try.prog 7 #[.int .u8 103] w (Yes w) := by
  go_enter Try.func7, Try.ntmps7
  go_wp2_with (first | (go_at_call 14; (with_reducible refine (pannierlaw08_knows.calls true _ knows_true).mono ?_); rintro e w' ⟨rfl, ⟨nd, rfl⟩⟩) | (go_at_call 15; (with_reducible refine (kind_Class.calls 103 3 _ (by decide +kernel)).mono ?_); rintro e w' ⟨rfl, ⟨nd, rfl⟩⟩) | (go_at_call 16; (with_reducible refine (kind_Kind.calls 103 0 _ (by decide +kernel)).mono ?_); rintro e w' ⟨rfl, ⟨nd, rfl⟩⟩) | (go_at_call 17; (with_reducible refine (kind_Takes.calls 103 true _ (by decide +kernel)).mono ?_); rintro e w' ⟨rfl, ⟨nd, rfl⟩⟩))
  go_ret
  exact ⟨rfl, yes_of _ _⟩

set_option maxHeartbeats 400000 in
theorem ahead_76 (w : World) : Calls Try.prog 7 #[.int .u8 76] w (Yes w) := by
  go_enter Try.func7, Try.ntmps7
  go_wp2_with (first | (go_at_call 14; (with_reducible refine (pannierlaw08_knows.calls true _ knows_true).mono ?_); rintro e w' ⟨rfl, ⟨nd, rfl⟩⟩) | (go_at_call 15; (with_reducible refine (kind_Class.calls 76 4 _ (by decide +kernel)).mono ?_); rintro e w' ⟨rfl, ⟨nd, rfl⟩⟩) | (go_at_call 16; (with_reducible refine (kind_Kind.calls 76 0 _ (by decide +kernel)).mono ?_); rintro e w' ⟨rfl, ⟨nd, rfl⟩⟩) | (go_at_call 17; (with_reducible refine (kind_Takes.calls 76 true _ (by decide +kernel)).mono ?_); rintro e w' ⟨rfl, ⟨nd, rfl⟩⟩))
  go_ret
  exact ⟨rfl, yes_of _ _⟩

set_option maxHeartbeats 400000 in
theorem ahead_75 (w : World) : Calls Try.prog 7 #[.int .u8 75] w (Yes w) := by
  go_enter Try.func7, Try.ntmps7
  go_wp2_with (first | (go_at_call 14; (with_reducible refine (pannierlaw08_knows.calls true _ knows_true).mono ?_); rintro e w' ⟨rfl, ⟨nd, rfl⟩⟩) | (go_at_call 15; (with_reducible refine (kind_Class.calls 75 5 _ (by decide +kernel)).mono ?_); rintro e w' ⟨rfl, ⟨nd, rfl⟩⟩) | (go_at_call 16; (with_reducible refine (kind_Kind.calls 75 0 _ (by decide +kernel)).mono ?_); rintro e w' ⟨rfl, ⟨nd, rfl⟩⟩) | (go_at_call 17; (with_reducible refine (kind_Takes.calls 75 true _ (by decide +kernel)).mono ?_); rintro e w' ⟨rfl, ⟨nd, rfl⟩⟩))
  go_ret
  exact ⟨rfl, yes_of _ _⟩

theorem class_low {a : Int} (h1 : a ≠ 120) (h2 : a ≠ 103) (h3 : a ≠ 76) (h4 : a ≠ 75) : ∃ c, kind_Class.f a = some c ∧ 0 ≤ c ∧ c ≤ 1 := by
  unfold kind_Class.f kind_Kind.f
  rw [if_neg h1, if_neg h2, if_neg h3, if_neg h4]
  repeat' split
  all_goals exact ⟨_, rfl, by decide, by decide⟩

set_option maxHeartbeats 400000 in
theorem ahead_other (w : World) (a c : Int) (b1 : (a == 120) = false) (b2 : (a == 103) = false) (b3 : (a == 76) = false) (b4 : (a == 75) = false) (hc : Hid (kind_Class.f a = some c)) (h1 : c ≤ 1) :
    Calls Try.prog 7 #[.int .u8 a] w (Yes w) := by
  have g : decide (1 < c) = false := by simpa using h1
  go_enter Try.func7, Try.ntmps7
  go_wp2_with (first | (go_at_call 14; (with_reducible refine (pannierlaw08_knows.calls true _ knows_true).mono ?_); rintro e w' ⟨rfl, ⟨nd, rfl⟩⟩) | (go_at_call 15; (with_reducible refine (kind_Class.calls a c _ hc.out).mono ?_); rintro e w' ⟨rfl, ⟨nd, rfl⟩⟩))
  go_ret
  exact ⟨rfl, yes_of _ _⟩

theorem walk (a : Int) (w : World) : Calls Try.prog 7 #[.int .u8 a] w fun e w' => e = .returned (.bool true) ∧ Below w.heap.size w w' := by
  have h : Calls Try.prog 7 #[.int .u8 a] w (Yes w) := by
    by_cases h1 : a = 120
    · subst h1; exact ahead_120 w
    by_cases h2 : a = 103
    · subst h2; exact ahead_103 w
    by_cases h3 : a = 76
    · subst h3; exact ahead_76 w
    by_cases h4 : a = 75
    · subst h4; exact ahead_75 w
    obtain ⟨c, hc, _, hc1⟩ := class_low h1 h2 h3 h4
    exact ahead_other w a c (beq_eq_false_iff_ne.mpr h1) (beq_eq_false_iff_ne.mpr h2) (beq_eq_false_iff_ne.mpr h3) (beq_eq_false_iff_ne.mpr h4) hc hc1
  exact h.mono fun _ _ ⟨he, hd⟩ => ⟨he, hd.below⟩

end Go.Proofs.Ytpdelappcgmadaa.KA
