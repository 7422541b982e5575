/- Short names, and rules whose side conditions are met by themselves. No condition. -/
import Derived.Test.YtiamkbmefllljaaReg2
set_option linter.unusedVariables false
namespace Go.Proofs.Ytiamkbmefllljaa.M
open Go.RowKit

theorem q0 (a : Act) (n : Nat) (v : Value) : a.put (some n) v = { a with tmps := a.tmps.setIfInBounds n v } := rfl
theorem q9 (a : Act) (v : Value) : a.put none v = a := rfl
theorem q1 {α : Type} (l : List α) (i : Nat) (x : α) : l.toArray.setIfInBounds i x = (l.set i x).toArray := List.setIfInBounds_toArray ..
theorem q2 {α : Type} (x y : α) (l : List α) : (y :: l).set 0 x = x :: l := List.set_cons_zero
theorem q3 {α : Type} (x y : α) (l : List α) (n : Nat) : (y :: l).set (n + 1) x = y :: l.set n x := List.set_cons_succ

section
variable {P : Program} {ops : Array Oper} {Q : Exit → Act → World → Prop} {a : Act} {w : World} {w0 : Base} {o : Oper} {fr l r : List Blk} {R : Act → World → Prop} {S : World → Prop} {md : Region.Mode} {fuel : Nat} {listed : Array Bool}

/-- What needs no world is taken first. -/
theorem rf (i : Nat) (v : Value) {oi : Oper} (hS : S w) (h : wpAnyH P md ops Q S fuel (listed.setIfInBounds i true) (a.put oi.dst v) w)
    (hi : ops.toList[i]? = some oi := by rfl) (hs : Region.noSelect ops = true := by kernel_rfl) (hf : Region.free md ops listed i = true := by kernel_rfl) (hr : (Region.ready md ops listed).contains i = true := by kernel_rfl)
    (hQ : ∀ c a w, Q (.panic c) (a.put oi.dst v) w → Q (.panic c) a w := by exact fun _ _ _ h => h) (hw : Region.wanted oi (yielded ops a.tmps) = true := by first | exact want_none rfl | exact want_some rfl rfl rfl rfl) (hy : ∀ w, (execOp a.eval oi).run P w = .ok (.value v) w := by intro w; go_simp) :
    wpAnyH P md ops Q S (fuel + 1) listed a w := reg_free i hi hs hf hr hQ hw hy hS h
/-- .. by a run that is told. -/
theorem rv (i : Nat) (v : Value) {oi : Oper} (hS : S w) (hy : ∀ w, (execOp a.eval oi).run P w = .ok (.value v) w) (h : wpAnyH P md ops Q S fuel (listed.setIfInBounds i true) (a.put oi.dst v) w)
    (hi : ops.toList[i]? = some oi := by rfl) (hs : Region.noSelect ops = true := by kernel_rfl) (hf : Region.free md ops listed i = true := by kernel_rfl) (hr : (Region.ready md ops listed).contains i = true := by kernel_rfl)
    (hQ : ∀ c a w, Q (.panic c) (a.put oi.dst v) w → Q (.panic c) a w := by exact fun _ _ _ h => h) (hw : Region.wanted oi (yielded ops a.tmps) = true := by first | exact want_none rfl | exact want_some rfl rfl rfl rfl) :
    wpAnyH P md ops Q S (fuel + 1) listed a w := reg_free i hi hs hf hr hQ hw hy hS h
/-- What its guard leaves out. -/
theorem rk (i : Nat) {oi : Oper} (hS : S w) (h : wpAnyH P md ops Q S fuel (listed.setIfInBounds i true) (a.put oi.dst undef) w)
    (hi : ops.toList[i]? = some oi := by rfl) (hs : Region.noSelect ops = true := by kernel_rfl) (hf : Region.free md ops listed i = true := by kernel_rfl) (hr : (Region.ready md ops listed).contains i = true := by kernel_rfl)
    (hQ : ∀ c a w, Q (.panic c) (a.put oi.dst undef) w → Q (.panic c) a w := by exact fun _ _ _ h => h) (hw : Region.wanted oi (yielded ops a.tmps) = false := by rfl) :
    wpAnyH P md ops Q S (fuel + 1) listed a w := reg_skip i hi hs hf hr hQ hw hS h
end
end Go.Proofs.Ytiamkbmefllljaa.M
