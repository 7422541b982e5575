/- For every integer: each kind has a type of that kind; others have none. No condition. -/
import Derived.Test.YtpdelappcgmadaaPKindBackx1
namespace Go.Proofs.Ytpdelappcgmadaa.Pure
open Go.RowKit Go.Proofs.Ytpdelappcgmadaa.PKindBack Go.Proofs.YtpdelappcgmadaaW.PrintWords Go.Proofs.YtpdelappcgmadaaW.PrintLast

theorem knows_true : pannierlaw08_knows.f = some true := by decide +kernel

theorem type_none {a : Int} (h : a < 1 ∨ 4 < a) : kind_Type.f a = some 0 := by
  unfold kind_Type.f
  rw [if_neg (by omega), if_neg (by omega), if_neg (by omega), if_neg (by omega)]

theorem KindBack : pannierlaw08_KindBack.Pure := by
  intro a _
  refine ⟨1, ?_⟩
  by_cases h : a < 1 ∨ 4 < a
  · unfold pannierlaw08_KindBack.f
    rw [knows_true, type_none h]
    simp only [Option.bind_some, if_true, pannierlaw08_KindBack.j0]
    by_cases h1 : a < 1
    · rw [if_pos h1]; rfl
    · rw [if_neg h1, if_pos (by simp; omega)]; rfl
  · have : a = 1 ∨ a = 2 ∨ a = 3 ∨ a = 4 := by omega
    rcases this with rfl | rfl | rfl | rfl <;> decide +kernel

end Go.Proofs.Ytpdelappcgmadaa.Pure
