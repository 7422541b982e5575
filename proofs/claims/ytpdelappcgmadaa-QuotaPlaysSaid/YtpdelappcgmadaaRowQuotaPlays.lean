/- For every limits and script: at every step what a ledger has and holds is within its limits. No condition. -/
import Derived.Test.YtpdelappcgmadaaRows
import Derived.Test.YtpdelappcgmadaaQPlay2
import Derived.Test.YtpdelappcgmadaaQOpen
import Derived.WalkKit
import Derived.ProofKit
import Derived.OpenShut
import Derived.ShutString
import Derived.ChangeOld
import Derived.Below
import Derived.SizedLaws
import Derived.Carry
namespace Go.Proofs.Ytpdelappcgmadaa.quotaPlays
open Go.ChangeShapes Go.WideShapes Go.ChangeAt Go.RowKit 
open Go.ChangeMaps (open_string shut_string)
set_option linter.unusedVariables false
theorem own : ownKnob Try.prog.godebug = none := by kernel_rfl
theorem laidOut : laidOutB Try.prog = true := by kernel_rfl

theorem size7_0 {cs : Array Value} (h : cs.size = 7) : ∃ c0 c1 c2 c3 c4 c5 c6, cs = #[c0, c1, c2, c3, c4, c5, c6] := by
  obtain ⟨l⟩ := cs
  match l, h with
  | [c0, c1, c2, c3, c4, c5, c6], _ => exact ⟨_, _, _, _, _, _, _, rfl⟩

theorem opened0 {H : Type} {enc : TypeId × Value → H} {W : World} {base : Nat} {v : Value} {d : DataW H} {p : List MemPlace} (hval : Value.okWide Try.prog W .any base 29 v) (h : DataW.Trod enc Try.prog W 0 (fun _ => true) true 29 v d p) :
    ∃ (l0 l1 l2 l3 l4 l5 l6 : Int), v = .agg #[.int .i64 l0, .int .i64 l1, .int .i64 l2, .int .i64 l3, .int .i64 l4, .int .i64 l5, .int .i64 l6] ∧ (Lit.int .i64 l0).wf = true ∧ (Lit.int .i64 l1).wf = true ∧ (Lit.int .i64 l2).wf = true ∧ (Lit.int .i64 l3).wf = true ∧ (Lit.int .i64 l4).wf = true ∧ (Lit.int .i64 l5).wf = true ∧ (Lit.int .i64 l6).wf = true := by
  obtain ⟨cs, rfl, hsz⟩ := okWide_struct Try.underlying29 hval
  have hC : Try.prog.cellsOf 29 = 7 := by kernel_rfl
  obtain ⟨c0, c1, c2, c3, c4, c5, c6, rfl⟩ := size7_0 (hsz.trans hC)
  obtain ⟨fuel, hf⟩ := h
  obtain ⟨xs, n, _, hx, _, hlen, hfld⟩ := DataW.trod_struct Try.underlying29 hf
  have e0 : DataW.trod enc Try.prog W 0 (fun _ => true) true n 2 ((([c0, c1, c2, c3, c4, c5, c6] : List Value).drop 0).take (Try.prog.cellsOf 2)) = xs[0]? := hfld 0 _ rfl
  rw [show Try.prog.cellsOf 2 = 1 by kernel_rfl] at e0
  obtain ⟨l0, q0, _, u0⟩ := DataW.trod_int Try.underlying2 (x := xs[0]'(by rw [hlen]; decide)) (e0.trans (List.getElem?_eq_getElem _))
  have e1 : DataW.trod enc Try.prog W 0 (fun _ => true) true n 3 ((([c0, c1, c2, c3, c4, c5, c6] : List Value).drop 1).take (Try.prog.cellsOf 3)) = xs[1]? := hfld 1 _ rfl
  rw [show Try.prog.cellsOf 3 = 1 by kernel_rfl] at e1
  obtain ⟨l1, q1, _, u1⟩ := DataW.trod_int Try.underlying3 (x := xs[1]'(by rw [hlen]; decide)) (e1.trans (List.getElem?_eq_getElem _))
  have e2 : DataW.trod enc Try.prog W 0 (fun _ => true) true n 3 ((([c0, c1, c2, c3, c4, c5, c6] : List Value).drop 2).take (Try.prog.cellsOf 3)) = xs[2]? := hfld 2 _ rfl
  rw [show Try.prog.cellsOf 3 = 1 by kernel_rfl] at e2
  obtain ⟨l2, q2, _, u2⟩ := DataW.trod_int Try.underlying3 (x := xs[2]'(by rw [hlen]; decide)) (e2.trans (List.getElem?_eq_getElem _))
  have e3 : DataW.trod enc Try.prog W 0 (fun _ => true) true n 3 ((([c0, c1, c2, c3, c4, c5, c6] : List Value).drop 3).take (Try.prog.cellsOf 3)) = xs[3]? := hfld 3 _ rfl
  rw [show Try.prog.cellsOf 3 = 1 by kernel_rfl] at e3
  obtain ⟨l3, q3, _, u3⟩ := DataW.trod_int Try.underlying3 (x := xs[3]'(by rw [hlen]; decide)) (e3.trans (List.getElem?_eq_getElem _))
  have e4 : DataW.trod enc Try.prog W 0 (fun _ => true) true n 2 ((([c0, c1, c2, c3, c4, c5, c6] : List Value).drop 4).take (Try.prog.cellsOf 2)) = xs[4]? := hfld 4 _ rfl
  rw [show Try.prog.cellsOf 2 = 1 by kernel_rfl] at e4
  obtain ⟨l4, q4, _, u4⟩ := DataW.trod_int Try.underlying2 (x := xs[4]'(by rw [hlen]; decide)) (e4.trans (List.getElem?_eq_getElem _))
  have e5 : DataW.trod enc Try.prog W 0 (fun _ => true) true n 2 ((([c0, c1, c2, c3, c4, c5, c6] : List Value).drop 5).take (Try.prog.cellsOf 2)) = xs[5]? := hfld 5 _ rfl
  rw [show Try.prog.cellsOf 2 = 1 by kernel_rfl] at e5
  obtain ⟨l5, q5, _, u5⟩ := DataW.trod_int Try.underlying2 (x := xs[5]'(by rw [hlen]; decide)) (e5.trans (List.getElem?_eq_getElem _))
  have e6 : DataW.trod enc Try.prog W 0 (fun _ => true) true n 2 ((([c0, c1, c2, c3, c4, c5, c6] : List Value).drop 6).take (Try.prog.cellsOf 2)) = xs[6]? := hfld 6 _ rfl
  rw [show Try.prog.cellsOf 2 = 1 by kernel_rfl] at e6
  obtain ⟨l6, q6, _, u6⟩ := DataW.trod_int Try.underlying2 (x := xs[6]'(by rw [hlen]; decide)) (e6.trans (List.getElem?_eq_getElem _))
  simp at q0 q1 q2 q3 q4 q5 q6
  subst q0 q1 q2 q3 q4 q5 q6
  exact ⟨l0, l1, l2, l3, l4, l5, l6, rfl, u0, u1, u2, u3, u4, u5, u6⟩

set_option maxRecDepth 100000 in
theorem lifted (os : Os) (started : os.Started) (H : Type) (enc : TypeId × Value → H) :
    ReturnsInHanded {} Try.checked os 8 .any (Rows.quotaPlaysSpec.pre6 enc Try.prog Try.f8 Rows.quotaPlaysRow.domain false) (Rows.quotaPlaysSpec.post enc Try.prog Try.f8 false true false false) := by
  refine returnsInHanded_of_change_sized (C := Try.checked) own started (by kernel_rfl) Try.func8
    (ChangeSpec.witness6 (enc := enc) (C := Try.checked) false ⟨#[], #[.agg #[.int .i64 0, .int .i64 0, .int .i64 0, .int .i64 0, .int .i64 0, .int .i64 0, .int .i64 0], .slice none 0 0], []⟩ 8 (by kernel_rfl) (by kernel_rfl) (by kernel_rfl) (by kernel_rfl)) ?_
  intro W base args ds gs before hval0 hW hcnd hsz0 _
  have hsz : (DataW.weightsEach Try.prog (Try.f8.params.toList ++ Rows.quotaPlaysSpec.plain.varTypes Try.prog) (ds ++ gs)).all (· ≤ reachBytes) = true := hsz0
  have hval : ∀ (j : Nat) t v, Try.f8.params[j]? = some t → args[j]? = some v → Value.okWide Try.prog W .any base t v := hval0
  have hW' := hW
  obtain ⟨p, q, hA0, hV, rfl, hfz, hnd⟩ := hW
  have hA : DataW.TrodAll enc Try.prog W 0 (fun _ => true) true Try.f8.params.toList args.toList ds p := hA0
  rw [Try.params8] at hA hval hsz
  obtain ⟨v0, vs0, d0, ds0, p0, q0, hargs, rfl, rfl, h0, r0⟩ := trodAll_cons hA
  obtain ⟨v1, vs1, d1, ds1, p1, q1, rfl, rfl, rfl, h1, r1⟩ := trodAll_cons r0
  obtain ⟨rfl, rfl, rfl⟩ := trodAll_nil r1
  obtain rfl : args = #[v0, v1] := by cases args; simp_all
  obtain ⟨rfl, rfl⟩ := trodVars_none hV
  have k0 := h0
  have lt0 : ∀ x ∈ p0, x.block < W.heap.size := by obtain ⟨m, hm⟩ := k0; exact DataW.trod_lt m _ _ _ hm
  obtain ⟨l0, l1, l2, l3, l4, l5, l6, rfl, wf_l0, wf_l1, wf_l2, wf_l3, wf_l4, wf_l5, wf_l6⟩ := opened0 (hval 0 29 v0 rfl rfl) h0
  have k1 := h1
  have lt1 : ∀ x ∈ p1, x.block < W.heap.size := by obtain ⟨m, hm⟩ := k1; exact DataW.trod_lt m _ _ _ hm
  have hx := QPlays.opened (hval 1 30 v1 rfl rfl) h1
  clear hA0 hval0 hsz0 hsz
  refine (QPlays.walk l0 l1 l2 l3 l4 l5 l6 v1 W hx).mono fun e W' ⟨he, bel⟩ => ?_
  subst he
  exact ⟨_, rfl, _, _, _, [], _, [], hW', trodAll_mk1 (shut_bool Try.underlying4 _), (trodAll_cons_mk (Below.trod laidOut (by kernel_rfl) (of_decide_eq_true (by kernel_rfl)) k0 bel lt0) (trodAll_cons_mk (Below.trod laidOut (by kernel_rfl) (of_decide_eq_true (by kernel_rfl)) k1 bel lt1) trodAll_mk0)), rfl, bel.frame _, fun h => by cases h⟩
theorem over : Rows.quotaPlaysRow.holds Try.pinned (OpenSpec.ofChange Rows.quotaPlaysSpec) :=
  OpenClaim.holds_of_wide 8 Try.f8 rfl rfl rfl rfl rfl rfl rfl ⟨rfl, rfl, rfl, rfl, rfl⟩ rfl rfl rfl rfl rfl (by kernel_rfl) Try.func8 (by kernel_rfl)
    (of_decide_eq_true (by kernel_rfl)) (by unfold Func.isWrapper; first | (rw [if_pos (by decide +kernel)]; kernel_rfl) | (rw [if_neg (by decide +kernel)]; exact ⟨rfl, rfl⟩))
    (fun os started H enc _ => lifted os started H enc)
theorem proved : Rows.QuotaPlaysSaid := over
end Go.Proofs.Ytpdelappcgmadaa.quotaPlays
namespace Go.Proofs.Ytpdelappcgmadaa
/-- The row, under a short name, for the claim. -/
theorem quotaPlays_holds : Rows.QuotaPlaysSaid := quotaPlays.proved
end Go.Proofs.Ytpdelappcgmadaa
