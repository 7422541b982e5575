/- For every two bytes: types of one kind are taken alike. No condition. -/
import Derived.Test.YtpdelappcgmadaaPKindSamex1
namespace Go.Proofs.Ytpdelappcgmadaa.Pure
open Go.RowKit Go.Proofs.Ytpdelappcgmadaa.PKindSame Go.Proofs.YtpdelappcgmadaaW.PrintWords Go.Proofs.YtpdelappcgmadaaW.PrintLast

theorem knows_true : pannierlaw08_knows.f = some true := by decide +kernel

theorem parts (a : Int) : a = 0 ∨ a = 48 ∨ a = 55 ∨ a = 49 ∨ a = 50 ∨ a = 53 ∨ kind_Kind.f a = some 0 := by
  by_cases h0 : a = 0
  · exact .inl h0
  by_cases h1 : a = 48
  · exact .inr (.inl h1)
  by_cases h2 : a = 55
  · exact .inr (.inr (.inl h2))
  by_cases h3 : a = 49
  · exact .inr (.inr (.inr (.inl h3)))
  by_cases h4 : a = 50
  · exact .inr (.inr (.inr (.inr (.inl h4))))
  by_cases h5 : a = 53
  · exact .inr (.inr (.inr (.inr (.inr (.inl h5)))))
  refine .inr (.inr (.inr (.inr (.inr (.inr ?_)))))
  unfold kind_Kind.f
  rw [if_neg h0, if_neg h1, if_neg h2, if_neg h3, if_neg h4, if_neg h5]

theorem none_first {a : Int} (b : Int) (h : kind_Kind.f a = some 0) : pannierlaw08_KindSame.f 1 a b = some true := by
  unfold pannierlaw08_KindSame.f
  rw [knows_true, h]
  simp only [Option.bind_some, if_true, pannierlaw08_KindSame.j0, h]

theorem none_second {a b t : Int} (ha : kind_Kind.f a = some t) (h0 : t ≠ 0) (ht : ∃ r, kind_Type.f t = some r ∧ r ≠ 0) (h : kind_Kind.f b = some 0) : pannierlaw08_KindSame.f 1 a b = some true := by
  obtain ⟨r, hr, hr0⟩ := ht
  have hz : kind_Type.f 0 = some 0 := by decide +kernel
  unfold pannierlaw08_KindSame.f
  rw [knows_true, ha, h]
  simp only [Option.bind_some, if_true, pannierlaw08_KindSame.j0, ha, h, if_neg h0, hr, hz]
  have e : (t != 0) = true := by simpa using h0
  have e2 : (r != 0) = true := by simpa using hr0
  rw [e, e2]
  simp

theorem KindSame : pannierlaw08_KindSame.Pure := by
  intro a b _ _
  refine ⟨1, ?_⟩
  rcases parts a with rfl | rfl | rfl | rfl | rfl | rfl | ha
  case inr.inr.inr.inr.inr.inr => exact none_first b ha
  all_goals
    rcases parts b with rfl | rfl | rfl | rfl | rfl | rfl | hb
    case inr.inr.inr.inr.inr.inr => exact none_second (by rfl) (by decide) ⟨_, by rfl, by decide⟩ hb
    all_goals decide +kernel

end Go.Proofs.Ytpdelappcgmadaa.Pure
