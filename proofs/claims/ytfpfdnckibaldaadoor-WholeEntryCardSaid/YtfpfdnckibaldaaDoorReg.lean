/- Regions that draw their order, over a memory of known blocks: loads of what stays are taken first, other operations as they come up. A call as one operation, by its contract. No condition. -/
import Derived.Test.YtfpfdnckibaldaaDoorMemX
import Derived.OrdersHeld
import Derived.Laws.ResultCell
set_option linter.unusedVariables false
namespace Go.Proofs.YtfpfdnckibaldaaDoor.M
open Go.RowKit
section
variable {P : Program} {ops : Array Oper} {Q : Exit → Act → World → Prop} {a : Act} {w : World} {w0 : Base} {o : Oper} {fr l r : List Blk} {R : Act → World → Prop} {S : World → Prop} {md : Region.Mode} {fuel : Nat} {listed : Array Bool}

theorem reg_begin {id : Nat} (S : World → Prop) (hm : P.follows .mixedOrders = true) (hM : Mem w0 w fr l)
    (h : ∀ w', Mem w0 w' fr l → wpAnyH P .any ops Q S ops.size (Array.replicate ops.size false) a w') : (Code.region id ops true).wp P Q a w :=
  wp_region_held hm (h _ (hM.step (w' := { w with drawn := w.drawn + 1 }) ⟨rfl, rfl, rfl, Nat.le_refl _, fun _ _ => rfl⟩))

/-- What needs no world is taken first. -/
theorem reg_free (i : Nat) {oi : Oper} {v : Value} (hi : ops.toList[i]? = some oi) (hs : Region.noSelect ops = true) (hf : Region.free md ops listed i = true) (hr : (Region.ready md ops listed).contains i = true)
    (hQ : ∀ c a w, Q (.panic c) (a.put oi.dst v) w → Q (.panic c) a w) (hw : Region.wanted oi (yielded ops a.tmps) = true) (hy : ∀ w, (execOp a.eval oi).run P w = .ok (.value v) w) (hS : S w)
    (h : wpAnyH P md ops Q S fuel (listed.setIfInBounds i true) (a.put oi.dst v) w) : wpAnyH P md ops Q S (fuel + 1) listed a w :=
  wpAnyH_take (by rw [← Array.getElem?_toList]; exact hi) hs hf hr hQ (.inl ⟨hw, fun w _ => hy w⟩) hS h

/-- Of a slice the part up to a place. -/
theorem run_sl_h {x hi : Operand} {t e : TypeId} {base : Option Addr} {len cap : Nat} {kh : IntKind} {H : Int} {oi : Oper} (w : World) (n : Nat) (hop : oi.op = .slice t x none (some hi) none)
    (hu : P.underlying t = some (.slice e)) (hs : ((P.info? e).map (·.size)).isSome = true) (hx : a.eval x = .slice base len cap) (hhi : a.eval hi = .int kh H) (hH : H = (n : Int)) (h2 : n ≤ cap) :
    (execOp a.eval oi).run P w = .ok (.value (.slice base n cap)) w := by
  cases hq : P.info? e with
  | none => simp [hq] at hs
  | some i =>
    have hrun : (Instr.sliceAt t (.slice base len cap) none (some (.int kh H)) none).run P w = .ok (.slice base n cap) w := by
      simp [Instr.sliceAt, Instr.slice, run_underlying hu, Instr.sliceBounds, run_bound w kh H n cap _ hH h2, sizeOf, typeInfo, hq]
      intro _
      cases base <;> simp [Addr.add]
    unfold execOp
    simp only [hop, hx, hhi, Option.map_some, Option.map_none, Sem.run_bind, hrun, Result.andThen_ok]
    rfl

/-- What its guard leaves out is taken first. -/
theorem reg_skip (i : Nat) {oi : Oper} (hi : ops.toList[i]? = some oi) (hs : Region.noSelect ops = true) (hf : Region.free md ops listed i = true) (hr : (Region.ready md ops listed).contains i = true)
    (hQ : ∀ c a w, Q (.panic c) (a.put oi.dst undef) w → Q (.panic c) a w) (hw : Region.wanted oi (yielded ops a.tmps) = false) (hS : S w)
    (h : wpAnyH P md ops Q S fuel (listed.setIfInBounds i true) (a.put oi.dst undef) w) : wpAnyH P md ops Q S (fuel + 1) listed a w :=
  wpAnyH_take (by rw [← Array.getElem?_toList]; exact hi) hs hf hr hQ (.inr ⟨hw, rfl⟩) hS h

/-- One cell of a block that stays is read first. -/
theorem reg_ld_one (i : Nat) {oi : Oper} {frS lS : List Blk} (hi : ops.toList[i]? = some oi) (hs : Region.noSelect ops = true) (hf : Region.free md ops listed i = true) (hr : (Region.ready md ops listed).contains i = true)
    {ty : TypeId} {x : Operand} {g k : Nat} {cs : Array Value} {t : TypeId} {fz : Nat × Nat} {v : Value}
    (hQ : ∀ c a w, Q (.panic c) (a.put oi.dst v) w → Q (.panic c) a w) (hw : Region.wanted oi (yielded ops a.tmps) = true) (hop : oi.op = .load ty x)
    (hx : a.eval x = .pointer (some ⟨g, k, none⟩)) (hp : Pick lS ⟨g, cs, t, fz⟩ r) (hv : cs[k]? = some v) (ht : OneTy P ty) (hS : Mem w0 w frS lS)
    (h : wpAnyH P md ops Q (fun w' => Mem w0 w' frS lS) fuel (listed.setIfInBounds i true) (a.put oi.dst v) w) : wpAnyH P md ops Q (fun w' => Mem w0 w' frS lS) (fuel + 1) listed a w :=
  wpAnyH_take (by rw [← Array.getElem?_toList]; exact hi) hs hf hr hQ (.inl ⟨hw, fun w' hM => by
    unfold execOp
    simp only [hop, hx, Instr.loadAt, Instr.sureAddr, Sem.run_bind, Sem.run_pure, Result.andThen_ok, run_loadVar_one w' ⟨g, k, none⟩ ty v ht ((hM.cell hp k).trans hv)]⟩) hS h

/-- A struct or an array in a block that stays is read first, whole. -/
theorem reg_ld_row (i : Nat) {oi : Oper} {frS lS : List Blk} (hi : ops.toList[i]? = some oi) (hs : Region.noSelect ops = true) (hf : Region.free md ops listed i = true) (hr : (Region.ready md ops listed).contains i = true)
    {ty : TypeId} {x : Operand} {g : Nat} {cs : Array Value} {t : TypeId} {fz : Nat × Nat}
    (hQ : ∀ c a w, Q (.panic c) (a.put oi.dst (.agg cs)) w → Q (.panic c) a w) (hw : Region.wanted oi (yielded ops a.tmps) = true) (hop : oi.op = .load ty x)
    (hx : a.eval x = .pointer (some ⟨g, 0, none⟩)) (hp : Pick lS ⟨g, cs, t, fz⟩ r) (ht : RowTy P ty cs.size) (hS : Mem w0 w frS lS)
    (h : wpAnyH P md ops Q (fun w' => Mem w0 w' frS lS) fuel (listed.setIfInBounds i true) (a.put oi.dst (.agg cs)) w) : wpAnyH P md ops Q (fun w' => Mem w0 w' frS lS) (fuel + 1) listed a w :=
  wpAnyH_take (by rw [← Array.getElem?_toList]; exact hi) hs hf hr hQ (.inl ⟨hw, fun w' hM => by
    obtain ⟨d, hu, hd⟩ := ht.agg
    unfold execOp
    simp only [hop, hx, Instr.loadAt, Instr.sureAddr, Sem.run_bind, Sem.run_pure, Result.andThen_ok, run_loadVar_row w' g t ty cs fz d (hM.get hp) hu (by cases d <;> simp_all) ht.size]⟩) hS h

/-- One cell is read first, which every world over a base has. -/
theorem reg_cell (i : Nat) {oi : Oper} {frS lS : List Blk} (hi : ops.toList[i]? = some oi) (hs : Region.noSelect ops = true) (hf : Region.free md ops listed i = true) (hr : (Region.ready md ops listed).contains i = true)
    {ty : TypeId} {x : Operand} {ad : Addr} {v : Value}
    (hQ : ∀ c a w, Q (.panic c) (a.put oi.dst v) w → Q (.panic c) a w) (hw : Region.wanted oi (yielded ops a.tmps) = true) (hop : oi.op = .load ty x)
    (hx : a.eval x = .pointer (some ad)) (hv : ∀ w', Mem w0 w' frS lS → w'.cell? ad = some v) (ht : OneTy P ty) (hS : Mem w0 w frS lS)
    (h : wpAnyH P md ops Q (fun w' => Mem w0 w' frS lS) fuel (listed.setIfInBounds i true) (a.put oi.dst v) w) : wpAnyH P md ops Q (fun w' => Mem w0 w' frS lS) (fuel + 1) listed a w :=
  wpAnyH_take (by rw [← Array.getElem?_toList]; exact hi) hs hf hr hQ (.inl ⟨hw, fun w' hM => by
    unfold execOp
    simp only [hop, hx, Instr.loadAt, Instr.sureAddr, Sem.run_bind, Sem.run_pure, Result.andThen_ok, run_loadVar_one w' ad ty v ht (hv w' hM)]⟩) hS h

/-- Bytes that every world over a base has are made a string first. -/
theorem reg_cv (i : Nat) {oi : Oper} {frS lS : List Blk} (hi : ops.toList[i]? = some oi) (hs : Region.noSelect ops = true) (hf : Region.free md ops listed i = true) (hr : (Region.ready md ops listed).contains i = true)
    {src dst e : TypeId} {x : Operand} {bs : List UInt8}
    (hQ : ∀ c a w, Q (.panic c) (a.put oi.dst (.string ⟨bs.toArray⟩)) w → Q (.panic c) a w) (hw : Region.wanted oi (yielded ops a.tmps) = true) (hop : oi.op = .convert src dst x)
    (hu : P.underlying src = some (.slice e)) (he : P.underlying e = some (.int .u8)) (hd : P.underlying dst = some .string) (hB : ∀ w', Mem w0 w' frS lS → Bytes w' (a.eval x) bs) (hS : Mem w0 w frS lS)
    (h : wpAnyH P md ops Q (fun w' => Mem w0 w' frS lS) fuel (listed.setIfInBounds i true) (a.put oi.dst (.string ⟨bs.toArray⟩)) w) : wpAnyH P md ops Q (fun w' => Mem w0 w' frS lS) (fuel + 1) listed a w :=
  wpAnyH_take (by rw [← Array.getElem?_toList]; exact hi) hs hf hr hQ (.inl ⟨hw, fun w' hM => by
    have hB1 := hB w' hM
    have hrun : (convert src dst (a.eval x)).run P w' = .ok (.string ⟨bs.toArray⟩) w' := by
      generalize a.eval x = v at hB1
      cases hB1 with
      | nil =>
        rw [run_convert_bytes_string w' src dst e none 0 0 hu he hd]
        rfl
      | at_ ad bs c _ h => exact run_convert_bytes_back w' src dst e ad c bs hu he hd (fun j hj => h j bs[j] (by simp [hj]))
    unfold execOp
    simp only [hop, Sem.run_bind, hrun, Result.andThen_ok]
    rfl⟩) hS h

/-- Just one operation may come up. -/
theorem reg_step (i : Nat) {oi : Oper} (hr : Region.ready md ops listed = [i]) (hi : ops.toList[i]? = some oi)
    (h : WPK P ops Q (fun a' w' => S w' ∧ wpAnyH P md ops Q S fuel (listed.setIfInBounds i true) a' w') oi a w) : wpAnyH P md ops Q S (fuel + 1) listed a w :=
  wpAnyH_all hr (by simp) (fun j hj => by
    obtain rfl : j = i := by simpa using hj
    unfold wpOp
    have hi' : ops[j]? = some oi := by rw [← Array.getElem?_toList]; exact hi
    simp only [hi']
    rw [if_pos h.hw]
    exact .inl (h.step _ (fun _ _ h => h)))

/-- One of two may come up. -/
theorem reg_two (i j : Nat) {oi oj : Oper} (hr : Region.ready md ops listed = [i, j]) (hi : ops.toList[i]? = some oi) (hj : ops.toList[j]? = some oj)
    (h1 : WPK P ops Q (fun a' w' => S w' ∧ wpAnyH P md ops Q S fuel (listed.setIfInBounds i true) a' w') oi a w)
    (h2 : WPK P ops Q (fun a' w' => S w' ∧ wpAnyH P md ops Q S fuel (listed.setIfInBounds j true) a' w') oj a w) : wpAnyH P md ops Q S (fuel + 1) listed a w :=
  wpAnyH_all hr (by simp) (fun k hk => by
    have hk' : k = i ∨ k = j := by simpa using hk
    rcases hk' with rfl | rfl
    · unfold wpOp
      have hi' : ops[k]? = some oi := by rw [← Array.getElem?_toList]; exact hi
      simp only [hi']
      rw [if_pos h1.hw]
      exact .inl (h1.step _ (fun _ _ h => h))
    · unfold wpOp
      have hj' : ops[k]? = some oj := by rw [← Array.getElem?_toList]; exact hj
      simp only [hj']
      rw [if_pos h2.hw]
      exact .inl (h2.step _ (fun _ _ h => h)))

/-- All have come up. -/
theorem reg_done (hr : Region.ready md ops listed = []) (h : Q .normal a w) : wpAnyH P md ops Q S fuel listed a w := wpAnyH_done hr h fuel

/-- A call of a Go function as one operation, by its contract. -/
theorem call_fn {f : FuncId} {args : Array Operand} {tys : Array TypeId} {C : Ending → World → Prop} (hop : o.op = .call { callee := .value (.func f), args := args, argTypes := tys }) (hw : Region.wanted o (yielded ops a.tmps) = true)
    (hf : ∀ (vs : Array Value) (w : World), (callFunc f vs).run P w = .ok (.enter f vs) w) {vs : Array Value}
    (hc : Calls P f vs w C) (hvs : args.map a.eval = vs) (h : ∀ e w', C e w' → ∃ v, e = .returned v ∧ R (a.put o.dst v) w') : WPK P ops Q R o a w :=
  wanted hw fun K hK => by
    subst hvs
    unfold Oper.wp
    have he : a.eval (.func f) = .func (.func f) #[] #[] := rfl
    have hrun : (execOp a.eval o).run P w = .ok (.enter f (args.map a.eval)) w := by
      simp [execOp, hop, resolve, invoke, he, Deferred.ofValue, hf]
    rw [hrun]
    simp only [Oper.upon]
    refine hc.mono fun e w' he => ?_
    obtain ⟨v, rfl, hr⟩ := h e w' he
    exact hK _ _ hr

/-- Any operation whose run is known and that leaves the world. -/
theorem any_val {v : Value} (hw : Region.wanted o (yielded ops a.tmps) = true) (hy : (execOp a.eval o).run P w = .ok (.value v) w) (h : R (a.put o.dst v) w) : WPK P ops Q R o a w :=
  wanted hw fun K hK => by
    unfold Oper.wp
    rw [hy]
    exact hK _ _ h

/-- A result that lies in a variable of its own. -/
theorem ret_cell {w : World} {g : Nat} {cs : Array Value} {t ty : TypeId} {fz : Nat × Nat} (hM : Mem w0 w fr l) (hp : Pick l ⟨g, cs, t, fz⟩ r) (ht : RowTy P ty cs.size) : (loadVar ty ⟨g, 0, none⟩).run P w = .ok (.agg cs) w := by
  obtain ⟨d, hu, hd⟩ := ht.agg
  exact run_loadVar_row w g t ty cs fz d (hM.get hp) hu (by cases d <;> simp_all) ht.size

/-- Two results, the first in a variable of its own. -/
theorem results_row {fn : Func} {p u : Tmp} {ty : TypeId} (h : fn.results = #[.cell p ty, .tmp u]) {tmps : Array Value} {w : World} {g : Nat} {cs : Array Value} {t : TypeId} {fz : Nat × Nat} (hM : Mem w0 w fr l)
    (hg : tmps.getD p undef = .pointer (some ⟨g, 0, none⟩)) (hp : Pick l ⟨g, cs, t, fz⟩ r) (ht : RowTy P ty cs.size) {v : Value} (hv : tmps.getD u undef = v) : (results fn tmps).run P w = .ok (.tuple #[.agg cs, v]) w := by
  rw [results_cell_tmp h, hg, hv]
  have ha : (asAddr (.pointer (some ⟨g, 0, none⟩))).run P w = .ok ⟨g, 0, none⟩ w := by simp [asAddr]
  rw [ha]
  simp only [Result.andThen_ok, ret_cell hM hp ht]
end
end Go.Proofs.YtfpfdnckibaldaaDoor.M
