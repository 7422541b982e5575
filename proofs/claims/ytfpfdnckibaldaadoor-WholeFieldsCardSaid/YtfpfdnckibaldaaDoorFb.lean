/- The number of an error with places: errors.As by its contracts, at a target that is a number. No condition. -/
import Derived.Test.YtfpfdnckibaldaaDoorFa
set_option linter.unusedSimpArgs false
set_option linter.unusedVariables false
namespace Go.Proofs.YtfpfdnckibaldaaDoor.G
open Go.Extern.Stop Go.Stop Go.Extern Go.RowKit Go.Proofs.YtfpfdnckibaldaaDoor.M Go.Proofs.YtfpfdnckibaldaaDoor.O Go.Proofs.YtfpfdnckibaldaaDoor.F


section
variable {P : Program} {ops : Array Oper} {Q : Exit → Act → World → Prop} {a : Act} {w : World} {w0 : Base} {rest : List Oper} {o : Oper} {fr l r : List Blk} {R : Act → World → Prop}
/-- A call that the model answers by itself. -/
theorem ex_fn {f : FuncId} {args : Array Operand} {tys : Array TypeId} {v : Value} {w' : World} (hop : o.op = .call { callee := .value (.func f), args := args, argTypes := tys }) (hw : Region.wanted o (yielded ops a.tmps) = true)
    {vs : Array Value} (hvs : args.map a.eval = vs) (hr : (callFunc f vs).run P w = .ok (.value v) w') (h : R (a.put o.dst v) w') : WPK P ops Q R o a w :=
  wanted hw fun K hK => by
    subst hvs
    unfold Oper.wp
    have he : a.eval (.func f) = .func (.func f) #[] #[] := rfl
    have hrun : (execOp a.eval o).run P w = .ok (.value v) w' := by
      simp [execOp, hop, resolve, invoke, he, Deferred.ofValue, hr]
    rw [hrun]
    exact hK _ _ h
end

theorem valueOf53 (t : Addr) (w : World) : (ReflectliteValue.unpack (.iface 53 (.pointer (some t)))).run Tryd.prog w
    = .ok (.agg #[.pointer (some ⟨6, 53, none⟩), .pointer (some ⟨w.heap.size, 0, none⟩), .int .u64 150]) (w.alloc (.cells #[.pointer (some t)] 53)) := by kernel_rfl
theorem valueOf23 (w : World) : (ReflectliteValue.unpack (.iface 23 (.int .i64 20))).run Tryd.prog w
    = .ok (.agg #[.pointer (some ⟨6, 23, none⟩), .pointer (some ⟨w.heap.size, 0, none⟩), .int .u64 130]) (w.alloc (.cells #[.int .i64 20] 23)) := by kernel_rfl
theorem type53 (a : Addr) (w : World) : (ReflectliteValue.methodAny (ReflectliteValue.valueError "reflectlite.Value.Type" 0) (fun t _ _ _ => ReflectliteType.toType t) #[.agg #[.pointer (some ⟨6, 53, none⟩), .pointer (some a), .int .u64 150]]).run Tryd.prog w
    = .ok (.iface 91 (.agg #[.pointer (some ⟨6, 53, none⟩)])) w := by kernel_rfl
theorem mKind (h : Value) (w : World) : (Go.method 269 91 (.agg #[h]) "Kind").run Tryd.prog w = .ok (79, h) w := by kernel_rfl
theorem mElem (h : Value) (w : World) : (Go.method 269 91 (.agg #[h]) "Elem").run Tryd.prog w = .ok (91, .agg #[h]) w := by kernel_rfl
theorem mImpl (h : Value) (w : World) : (Go.method 269 91 (.agg #[h]) "Implements").run Tryd.prog w = .ok (92, .agg #[h]) w := by kernel_rfl
theorem mAssign (h : Value) (w : World) : (Go.method 269 91 (.agg #[h]) "AssignableTo").run Tryd.prog w = .ok (89, .agg #[h]) w := by kernel_rfl
theorem kind53 (w : World) : ((ReflectliteType.abiMethod fun t => (fun a : Nat => Value.int IntKind.u8 (a : Int)) <$> Rtype.kind t) #[.pointer (some ⟨6, 53, none⟩)]).run Tryd.prog w = .ok (.int .u8 22) w := by kernel_rfl
theorem kind23 (w : World) : ((ReflectliteType.abiMethod fun t => (fun a : Nat => Value.int IntKind.u8 (a : Int)) <$> Rtype.kind t) #[.pointer (some ⟨6, 23, none⟩)]).run Tryd.prog w = .ok (.int .u8 2) w := by kernel_rfl
theorem elem53 (w : World) : (ReflectliteType.method ReflectliteType.elem #[.agg #[.pointer (some ⟨6, 53, none⟩)]]).run Tryd.prog w = .ok (.iface 91 (.agg #[.pointer (some ⟨6, 23, none⟩)])) w := by kernel_rfl
theorem impl23 (w : World) : (ReflectliteType.relation "Implements" ReflectliteType.implements_ #[.agg #[.pointer (some ⟨6, 23, none⟩)], .iface 91 (.agg #[.pointer (some ⟨6, 29, none⟩)])]).run Tryd.prog w = .ok (.bool true) w := by kernel_rfl
theorem typeOf55 (v : Value) (w : World) : (ReflectliteType.typeOf #[.iface 55 v]).run Tryd.prog w = .ok (.iface 91 (.agg #[.pointer (some ⟨6, 55, none⟩)])) w := by kernel_rfl
theorem assign23 (w : World) : (ReflectliteType.relation "AssignableTo" ReflectliteType.assignableTo #[.agg #[.pointer (some ⟨6, 23, none⟩)], .iface 91 (.agg #[.pointer (some ⟨6, 23, none⟩)])]).run Tryd.prog w = .ok (.bool true) w := by kernel_rfl
theorem assign55 (w : World) : (ReflectliteType.relation "AssignableTo" ReflectliteType.assignableTo #[.agg #[.pointer (some ⟨6, 55, none⟩)], .iface 91 (.agg #[.pointer (some ⟨6, 23, none⟩)])]).run Tryd.prog w = .ok (.bool false) w := by kernel_rfl
theorem lacks95 (v : Value) (xT : TypeId) (w : World) : (Instr.typeAssert (.iface 55 v) xT 95 true).run Tryd.prog w = .ok (.tuple #[.nilIface, .bool false]) w := run_typeAssert_lacksB Tryd.underlying95 (by kernel_rfl) (by kernel_rfl) v xT w

theorem rlm (z : Sem Value) (f : TypeId → Addr → Nat → Nat → Sem Value) (v : Value) :
    ReflectliteValue.method z f #[v] = (do match ← ReflectliteValue.parts v with | none => z | some (t, a, fl) => f t a fl (fl % 32)) := rfl
theorem parts53 (a : Addr) (w : World) : (ReflectliteValue.parts (.agg #[.pointer (some ⟨6, 53, none⟩), .pointer (some a), .int .u64 150])).run Tryd.prog w = .ok (some (53, a, 150)) w := by kernel_rfl
theorem isNil53 (a p : Addr) (W : World) (ha : W.cell? a = some (.pointer (some p))) :
    (ReflectliteValue.method (ReflectliteValue.valueError "reflectlite.Value.IsNil" 0) ReflectliteValue.isNil #[.agg #[.pointer (some ⟨6, 53, none⟩), .pointer (some a), .int .u64 150]]).run Tryd.prog W = .ok (.bool false) W := by
  rw [rlm]
  simp only [Sem.run_bind, parts53, Result.andThen]
  simp [ReflectliteValue.isNil, loadVar, isAgg, underlying, Tryd.underlying53, ha, Result.andThen]
theorem elemOf53 (w : World) : (Rtype.elem? 53).run Tryd.prog w = .ok (some 23) w := by kernel_rfl
theorem mk23 (p : Addr) (w : World) : (ReflectliteValue.mk 23 p ReflectliteValue.flagAddr).run Tryd.prog w = .ok (.agg #[.pointer (some ⟨6, 23, none⟩), .pointer (some p), .int .u64 386]) w := by kernel_rfl
theorem elemV53 (a p : Addr) (W : World) (ha : W.cell? a = some (.pointer (some p))) :
    (ReflectliteValue.method (ReflectliteValue.valueError "reflectlite.Value.Elem" 0) ReflectliteValue.elem #[.agg #[.pointer (some ⟨6, 53, none⟩), .pointer (some a), .int .u64 150]]).run Tryd.prog W
      = .ok (.agg #[.pointer (some ⟨6, 23, none⟩), .pointer (some p), .int .u64 386]) W := by
  rw [rlm]
  simp only [Sem.run_bind, parts53, Result.andThen]
  simp [ReflectliteValue.elem, loadVar, isAgg, underlying, Tryd.underlying53, ha, Result.andThen, elemOf53, mk23]
theorem rls (v x : Value) : ReflectliteValue.set #[v, x] = (do
    let (some (dst, a, fl), some (src, b, _)) := (← ReflectliteValue.parts v, ← ReflectliteValue.parts x)
      | unsupported (.noEntry "extern/(internal/reflectlite.Value).Set.zeroValue")
    if fl / ReflectliteValue.flagAddr % 2 == 0 then unsupported (.noEntry "extern/(internal/reflectlite.Value).Set.unaddressable")
    let val ← loadVar src b
    if ← Rtype.directlyAssignable dst src then storeVar dst a val
    else if ← Rtype.implements dst src then
      if (← Rtype.kind src) == 20 then
        match val with
        | .nilIface => unsupported (.noEntry "extern/reflectlite: a nil value of one interface type handed on as a value of another")
        | _ => storeVar dst a val
      else storeVar dst a (.iface src val)
    else panicString ("reflectlite.Set: value of type " ++ (← Rtype.spelt src) ++ " is not assignable to type " ++ (← Rtype.spelt dst))
    pure (.tuple #[])) := rfl
theorem parts23a (a : Addr) (w : World) : (ReflectliteValue.parts (.agg #[.pointer (some ⟨6, 23, none⟩), .pointer (some a), .int .u64 386])).run Tryd.prog w = .ok (some (23, a, 386)) w := by kernel_rfl
theorem parts23 (a : Addr) (w : World) : (ReflectliteValue.parts (.agg #[.pointer (some ⟨6, 23, none⟩), .pointer (some a), .int .u64 130])).run Tryd.prog w = .ok (some (23, a, 130)) w := by kernel_rfl
theorem direct23 (w : World) : (Rtype.directlyAssignable 23 23).run Tryd.prog w = .ok true w := by kernel_rfl
theorem one23 : OneTy Tryd.prog 23 := .of (by kernel_rfl)
theorem one75 : OneTy Tryd.prog 75 := .of (by kernel_rfl)
theorem row72 : RowTy Tryd.prog 72 3 := .of (by kernel_rfl)
theorem zero72 : zeroIs Tryd.prog 72 (.agg #[.pointer none, .pointer none, .int .u64 0]) := by unfold zeroIs; kernel_rfl
theorem zero23 : zeroIs Tryd.prog 23 (.int .i64 0) := by unfold zeroIs; kernel_rfl
theorem set23 (ta b : Addr) (old : Value) (W : World) (hb : W.cell? b = some (.int .i64 20)) (ht : W.cell? ta = some old) (hf : W.frozen? ta = false) :
    (ReflectliteValue.set #[.agg #[.pointer (some ⟨6, 23, none⟩), .pointer (some ta), .int .u64 386], .agg #[.pointer (some ⟨6, 23, none⟩), .pointer (some b), .int .u64 130]]).run Tryd.prog W
      = .ok (.tuple #[]) (W.setCell ta (.int .i64 20)) := by
  rw [rls]
  have h1 := run_loadVar_one (P := Tryd.prog) W b 23 _ one23 hb
  have h2 := Go.Proofs.YtfpfdnckibaldaaDoor.M.run_storeVar_one (P := Tryd.prog) W ta 23 (.int .i64 20) old one23 rfl ht hf
  simp only [Sem.run_bind, parts23a, parts23, Result.andThen]
  simp [ReflectliteValue.flagAddr, h1, Result.andThen, direct23, h2]

section
variable {ops : Array Oper} {Q : Exit → Act → World → Prop} {a : Act} {w : World} {w0 : Base} {o : Oper} {fr l r r' : List Blk} {R : Act → World → Prop} {g gb ga : Nat}
theorem ex26 {args : Array Operand} {tys : Array TypeId} (hop : o.op = .call { callee := .value (.func 26), args := args, argTypes := tys }) (hw : Region.wanted o (yielded ops a.tmps) = true) (hM : Mem w0 w fr l)
    (hvs : args.map a.eval = #[.iface 53 (.pointer (some ⟨g, 0, none⟩))]) (h : ∀ ga w', Mem w0 w' fr (⟨ga, #[.pointer (some ⟨g, 0, none⟩)], 53, (0, 0)⟩ :: l) → R (a.put o.dst (.agg #[.pointer (some ⟨6, 53, none⟩), .pointer (some ⟨ga, 0, none⟩), .int .u64 150])) w') : WPK Tryd.prog ops Q R o a w := by
  have h26 := @run_callFunc_extern Tryd.prog 26 _ (fun args => ReflectliteValue.unpack (args.getD 0 (.tuple #[]))) Tryd.func26 (by kernel_rfl) (by kernel_rfl) (by kernel_rfl) (by kernel_rfl)
  refine ex_fn hop hw hvs ((h26 _ _).trans ?_) (h _ _ (hM.alloc _ _))
  have e := valueOf53 ⟨g, 0, none⟩ w
  show ((ReflectliteValue.unpack (.iface 53 (.pointer (some ⟨g, 0, none⟩)))).run _ _).andThen _ = _
  rw [e]
  rfl
theorem ex26e {args : Array Operand} {tys : Array TypeId} (hop : o.op = .call { callee := .value (.func 26), args := args, argTypes := tys }) (hw : Region.wanted o (yielded ops a.tmps) = true) (hM : Mem w0 w fr l)
    (hvs : args.map a.eval = #[.iface 23 (.int .i64 20)]) (h : ∀ ga w', Mem w0 w' fr (⟨ga, #[.int .i64 20], 23, (0, 0)⟩ :: l) → R (a.put o.dst (.agg #[.pointer (some ⟨6, 23, none⟩), .pointer (some ⟨ga, 0, none⟩), .int .u64 130])) w') : WPK Tryd.prog ops Q R o a w := by
  have h26 := @run_callFunc_extern Tryd.prog 26 _ (fun args => ReflectliteValue.unpack (args.getD 0 (.tuple #[]))) Tryd.func26 (by kernel_rfl) (by kernel_rfl) (by kernel_rfl) (by kernel_rfl)
  refine ex_fn hop hw hvs ((h26 _ _).trans ?_) (h _ _ (hM.alloc _ _))
  have e := valueOf23 w
  show ((ReflectliteValue.unpack (.iface 23 (.int .i64 20))).run _ _).andThen _ = _
  rw [e]
  rfl
theorem ex28 {args : Array Operand} {tys : Array TypeId} (hop : o.op = .call { callee := .value (.func 28), args := args, argTypes := tys }) (hw : Region.wanted o (yielded ops a.tmps) = true) (hM : Mem w0 w fr l)
    (hvs : args.map a.eval = #[.agg #[.pointer (some ⟨6, 53, none⟩), .pointer (some ⟨ga, 0, none⟩), .int .u64 150]]) (hp : Pick l ⟨ga, #[.pointer (some ⟨g, 0, none⟩)], 53, (0, 0)⟩ r) (h : R (a.put o.dst (.bool false)) w) : WPK Tryd.prog ops Q R o a w := by
  have h28 := @run_callFunc_extern Tryd.prog 28 _ (ReflectliteValue.method (ReflectliteValue.valueError "reflectlite.Value.IsNil" 0) ReflectliteValue.isNil) Tryd.func28 (by kernel_rfl) (by kernel_rfl) (by kernel_rfl) (by kernel_rfl)
  refine ex_fn hop hw hvs ((h28 _ _).trans ?_) h
  rw [isNil53 ⟨ga, 0, none⟩ ⟨g, 0, none⟩ w ((hM.cell hp 0).trans rfl)]
  rfl
theorem ex35 {args : Array Operand} {tys : Array TypeId} (hop : o.op = .call { callee := .value (.func 35), args := args, argTypes := tys }) (hw : Region.wanted o (yielded ops a.tmps) = true) (hM : Mem w0 w fr l)
    (hvs : args.map a.eval = #[.agg #[.pointer (some ⟨6, 53, none⟩), .pointer (some ⟨ga, 0, none⟩), .int .u64 150]]) (hp : Pick l ⟨ga, #[.pointer (some ⟨g, 0, none⟩)], 53, (0, 0)⟩ r) (h : R (a.put o.dst (.agg #[.pointer (some ⟨6, 23, none⟩), .pointer (some ⟨g, 0, none⟩), .int .u64 386])) w) : WPK Tryd.prog ops Q R o a w := by
  have h35 := @run_callFunc_extern Tryd.prog 35 _ (ReflectliteValue.method (ReflectliteValue.valueError "reflectlite.Value.Elem" 0) ReflectliteValue.elem) Tryd.func35 (by kernel_rfl) (by kernel_rfl) (by kernel_rfl) (by kernel_rfl)
  refine ex_fn hop hw hvs ((h35 _ _).trans ?_) h
  rw [elemV53 ⟨ga, 0, none⟩ ⟨g, 0, none⟩ w ((hM.cell hp 0).trans rfl)]
  rfl
theorem ex36 {args : Array Operand} {tys : Array TypeId} (hop : o.op = .call { callee := .value (.func 36), args := args, argTypes := tys }) (hw : Region.wanted o (yielded ops a.tmps) = true) (hM : Mem w0 w fr l)
    (hvs : args.map a.eval = #[.agg #[.pointer (some ⟨6, 23, none⟩), .pointer (some ⟨g, 0, none⟩), .int .u64 386], .agg #[.pointer (some ⟨6, 23, none⟩), .pointer (some ⟨gb, 0, none⟩), .int .u64 130]]) (hp : Pick l ⟨gb, #[.int .i64 20], 23, (0, 0)⟩ r) {old : Value} (hq : Pick l ⟨g, #[old], 23, (0, 0)⟩ r') (h : ∀ w', Mem w0 w' fr (⟨g, #[.int .i64 20], 23, (0, 0)⟩ :: r') → R (a.put o.dst (.tuple #[])) w') : WPK Tryd.prog ops Q R o a w := by
  have h36 := @run_callFunc_extern Tryd.prog 36 _ (ReflectliteValue.set) Tryd.func36 (by kernel_rfl) (by kernel_rfl) (by kernel_rfl) (by kernel_rfl)
  refine ex_fn hop hw hvs ((h36 _ _).trans ?_) (h _ (hM.setCell (i := 0) hq (.int .i64 20)))
  rw [set23 ⟨g, 0, none⟩ ⟨gb, 0, none⟩ old w ((hM.cell hp 0).trans rfl) ((hM.cell hq 0).trans rfl) (hM.frozen hq 0)]
  rfl
end

set_option maxRecDepth 100000 in
set_option maxHeartbeats 4000000 in
theorem as_loop {w0 : Base} {w : World} {fr : List Blk} {g ga : Nat} (l : List Int) (hM : Mem w0 w fr [⟨ga, #[.pointer (some ⟨g, 0, none⟩)], 53, (0, 0)⟩, ⟨g, #[.int .i64 0], 23, (0, 0)⟩]) :
    Calls Tryd.prog 29 #[ch l, .iface 53 (.pointer (some ⟨g, 0, none⟩)), .agg #[.pointer (some ⟨6, 53, none⟩), .pointer (some ⟨ga, 0, none⟩), .int .u64 150], .iface 91 (.agg #[.pointer (some ⟨6, 23, none⟩)])] w fun e w' => e = .returned (.bool true) ∧ Mem w0 w' fr [⟨g, #[.int .i64 20], 23, (0, 0)⟩] := by
  have h30 := @run_callFunc_extern Tryd.prog 30 _ (ReflectliteType.typeOf) Tryd.func30 (by kernel_rfl) (by kernel_rfl) (by kernel_rfl) (by kernel_rfl)
  have h89 := @run_callFunc_extern Tryd.prog 89 _ (ReflectliteType.relation "AssignableTo" ReflectliteType.assignableTo) Tryd.func89 (by kernel_rfl) (by kernel_rfl) (by kernel_rfl) (by kernel_rfl)
  have a1 := typeOf55
  have a2 := typeOf23
  have a3 := lacks95
  have a4 := assign23
  have a5 := has84
  have a6 := mUnwrap
  have a7 := assign55
  have a8 := mAssign
  go_enter Tryd.func29, Tryd.ntmps29
  go_wp2_with (first | ((with_reducible refine wpl ?_); apply al_box (hM := hM); rfl; (first | exact want_none rfl | exact want_some rfl rfl rfl rfl); (first | (focus (go_simp; done)) | (focus (go_simp; rfl))); intro gb w1 hM1; clear hM; dsimp only [Value.cells] at hM1; have hM := hM1; clear hM1; simp only [Act.put, List.setIfInBounds_toArray, List.set_cons_zero, List.set_cons_succ]) | ((with_reducible refine wpl ?_); apply al_zero (hM := hM); rfl; (first | exact want_none rfl | exact want_some rfl rfl rfl rfl); (first | exact zero72 | exact zero23); intro gz w1 hM1; clear hM; dsimp only [Value.cells] at hM1; have hM := hM1; clear hM1; simp only [Act.put, List.setIfInBounds_toArray, List.set_cons_zero, List.set_cons_succ]) | ((with_reducible refine wpl ?_); apply ld_row (hM := hM); rfl; (first | exact want_none rfl | exact want_some rfl rfl rfl rfl); rfl; (first | exact .head _ _ | exact .tail (.head _ _) | exact .tail (.tail (.head _ _)) | exact .tail (.tail (.tail (.head _ _)))); (first | exact row72); simp only [Act.put, List.setIfInBounds_toArray, List.set_cons_zero, List.set_cons_succ]) | ((with_reducible refine wpl ?_); apply st_row (hM := hM); rfl; (first | exact want_none rfl | exact want_some rfl rfl rfl rfl); rfl; (first | (focus (go_simp; done)) | (focus (go_simp; rfl))); (first | exact .head _ _ | exact .tail (.head _ _) | exact .tail (.tail (.head _ _)) | exact .tail (.tail (.tail (.head _ _)))); rfl; rfl; (first | exact row72); intro w1 hM1; clear hM; (try simp only [List.setIfInBounds_toArray, List.set_cons_zero, List.set_cons_succ] at hM1);  have hM := hM1; clear hM1; simp only [Act.put, List.setIfInBounds_toArray, List.set_cons_zero, List.set_cons_succ]) | ((with_reducible refine wpl ?_); apply ld_one (hM := hM); rfl; (first | exact want_none rfl | exact want_some rfl rfl rfl rfl); rfl; (first | exact .head _ _ | exact .tail (.head _ _) | exact .tail (.tail (.head _ _)) | exact .tail (.tail (.tail (.head _ _)))); (first | (focus (simp only [List.getElem?_toArray, List.getElem?_cons_zero, List.getElem?_cons_succ]; rfl)) | rfl); (first | exact one29 | exact one23); simp only [Act.put, List.setIfInBounds_toArray, List.set_cons_zero, List.set_cons_succ]) | ((with_reducible refine wpl ?_); apply st_cell (hM := hM); rfl; (first | exact want_none rfl | exact want_some rfl rfl rfl rfl); rfl; (first | (focus (go_simp; done)) | (focus (go_simp; rfl))); (first | exact .head _ _ | exact .tail (.head _ _) | exact .tail (.tail (.head _ _)) | exact .tail (.tail (.tail (.head _ _)))); (first | (focus (simp; done)) | (focus (rw [tab_size]; omega))); rfl; (first | exact one29 | exact one23); intro w1 hM1; clear hM; (try simp only [List.setIfInBounds_toArray, List.set_cons_zero, List.set_cons_succ] at hM1);  have hM := hM1; clear hM1; simp only [Act.put, List.setIfInBounds_toArray, List.set_cons_zero, List.set_cons_succ]))
  go_loopg [0] (l.length) (fun gk x0 wr => ∃ l' : List Int, x0 = ch l' ∧ gk = l'.length ∧ Mem w0 wr fr [⟨gb, #[.pointer (some ⟨6, 53, none⟩), .pointer (some ⟨ga, 0, none⟩), .int .u64 150], 72, (0, 0)⟩, ⟨ga, #[.pointer (some ⟨g, 0, none⟩)], 53, (0, 0)⟩, ⟨g, #[.int .i64 0], 23, (0, 0)⟩])
  case atStart => exact ⟨l, rfl, rfl, hM⟩
  case round =>
    obtain ⟨l', rfl, hgk, hMr⟩ := hrel
    clear hM
    have hM := hMr
    clear hMr
    replace hgk := hd_ hgk
    cases l' with
    | nil =>
      have e2 : ch [] = .iface 23 (.int .i64 20) := rfl
      rw [e2]
      go_wp2_with (first | ((with_reducible refine wpl ?_); apply al_box (hM := hM); rfl; (first | exact want_none rfl | exact want_some rfl rfl rfl rfl); (first | (focus (go_simp; done)) | (focus (go_simp; rfl))); intro gb w1 hM1; clear hM; dsimp only [Value.cells] at hM1; have hM := hM1; clear hM1; simp only [Act.put, List.setIfInBounds_toArray, List.set_cons_zero, List.set_cons_succ]) | ((with_reducible refine wpl ?_); apply al_zero (hM := hM); rfl; (first | exact want_none rfl | exact want_some rfl rfl rfl rfl); (first | exact zero72 | exact zero23); intro gz w1 hM1; clear hM; dsimp only [Value.cells] at hM1; have hM := hM1; clear hM1; simp only [Act.put, List.setIfInBounds_toArray, List.set_cons_zero, List.set_cons_succ]) | ((with_reducible refine wpl ?_); apply ld_row (hM := hM); rfl; (first | exact want_none rfl | exact want_some rfl rfl rfl rfl); rfl; (first | exact .head _ _ | exact .tail (.head _ _) | exact .tail (.tail (.head _ _)) | exact .tail (.tail (.tail (.head _ _)))); (first | exact row72); simp only [Act.put, List.setIfInBounds_toArray, List.set_cons_zero, List.set_cons_succ]) | ((with_reducible refine wpl ?_); apply st_row (hM := hM); rfl; (first | exact want_none rfl | exact want_some rfl rfl rfl rfl); rfl; (first | (focus (go_simp; done)) | (focus (go_simp; rfl))); (first | exact .head _ _ | exact .tail (.head _ _) | exact .tail (.tail (.head _ _)) | exact .tail (.tail (.tail (.head _ _)))); rfl; rfl; (first | exact row72); intro w1 hM1; clear hM; (try simp only [List.setIfInBounds_toArray, List.set_cons_zero, List.set_cons_succ] at hM1);  have hM := hM1; clear hM1; simp only [Act.put, List.setIfInBounds_toArray, List.set_cons_zero, List.set_cons_succ]) | ((with_reducible refine wpl ?_); apply ld_one (hM := hM); rfl; (first | exact want_none rfl | exact want_some rfl rfl rfl rfl); rfl; (first | exact .head _ _ | exact .tail (.head _ _) | exact .tail (.tail (.head _ _)) | exact .tail (.tail (.tail (.head _ _)))); (first | (focus (simp only [List.getElem?_toArray, List.getElem?_cons_zero, List.getElem?_cons_succ]; rfl)) | rfl); (first | exact one29 | exact one23); simp only [Act.put, List.setIfInBounds_toArray, List.set_cons_zero, List.set_cons_succ]) | ((with_reducible refine wpl ?_); apply st_cell (hM := hM); rfl; (first | exact want_none rfl | exact want_some rfl rfl rfl rfl); rfl; (first | (focus (go_simp; done)) | (focus (go_simp; rfl))); (first | exact .head _ _ | exact .tail (.head _ _) | exact .tail (.tail (.head _ _)) | exact .tail (.tail (.tail (.head _ _)))); (first | (focus (simp; done)) | (focus (rw [tab_size]; omega))); rfl; (first | exact one29 | exact one23); intro w1 hM1; clear hM; (try simp only [List.setIfInBounds_toArray, List.set_cons_zero, List.set_cons_succ] at hM1);  have hM := hM1; clear hM1; simp only [Act.put, List.setIfInBounds_toArray, List.set_cons_zero, List.set_cons_succ]) | ((with_reducible refine wpl ?_); apply ex26e (hM := hM); rfl; (first | exact want_none rfl | exact want_some rfl rfl rfl rfl); (simp only [List.map_toArray, List.map_cons, List.map_nil]; rfl); intro ge w1 hM1; clear hM; have hM := hM1; clear hM1; simp only [Act.put, List.setIfInBounds_toArray, List.set_cons_zero, List.set_cons_succ]) | ((with_reducible refine wpl ?_); apply ex35 (hM := hM); rfl; (first | exact want_none rfl | exact want_some rfl rfl rfl rfl); (simp only [List.map_toArray, List.map_cons, List.map_nil]; rfl); (first | exact .head _ _ | exact .tail (.head _ _) | exact .tail (.tail (.head _ _)) | exact .tail (.tail (.tail (.head _ _)))); simp only [Act.put, List.setIfInBounds_toArray, List.set_cons_zero, List.set_cons_succ]) | ((with_reducible refine wpl ?_); apply ex36 (hM := hM); rfl; (first | exact want_none rfl | exact want_some rfl rfl rfl rfl); (simp only [List.map_toArray, List.map_cons, List.map_nil]; rfl); (first | exact .head _ _ | exact .tail (.head _ _) | exact .tail (.tail (.head _ _)) | exact .tail (.tail (.tail (.head _ _)))); (first | exact .head _ _ | exact .tail (.head _ _) | exact .tail (.tail (.head _ _)) | exact .tail (.tail (.tail (.head _ _)))); intro w1 hM1; clear hM; have hM := hM1; clear hM1; simp only [Act.put, List.setIfInBounds_toArray, List.set_cons_zero, List.set_cons_succ]))
      go_ret
      exact ⟨rfl, hM.sub (.cons (.head _ _) (.nil _))⟩
    | cons p l2 =>
      obtain ⟨t, v, hc, ht⟩ := ch_iface l2
      have e2 : ch (p :: l2) = .iface 55 (.agg #[.int .i64 p, .iface t v]) := by rw [← hc]; rfl
      rw [e2]
      replace hc := hd_ hc
      go_wp2_with (first | (go_at_call 84; (with_reducible refine (unwrap_at _ p (.iface t v)).mono ?_); rintro e w3 ⟨rfl, hb⟩; replace hM := hM.step hb; clear hb))
      go_roundg (l2.length)
      case measure => have := hgk.out; simp only [List.length_cons] at this; omega
      case rel => exact ⟨l2, hc.out.symm, rfl, hM⟩

set_option maxRecDepth 100000 in
set_option maxHeartbeats 4000000 in
theorem as_ {w0 : Base} {w : World} {fr : List Blk} {g : Nat} (l : List Int) (hM : Mem w0 w fr [⟨g, #[.int .i64 0], 23, (0, 0)⟩]) (hlt : 0 < w0.w.heap.size) (hg : w0.w.cell? ⟨0, 0, none⟩ = some (.iface 91 (.agg #[.pointer (some ⟨6, 29, none⟩)]))) :
    Calls Tryd.prog 17 #[ch l, .iface 53 (.pointer (some ⟨g, 0, none⟩))] w fun e w' => e = .returned (.bool true) ∧ Mem w0 w' fr [⟨g, #[.int .i64 20], 23, (0, 0)⟩] := by
  have h27 := @run_callFunc_extern Tryd.prog 27 _ (ReflectliteValue.methodAny (ReflectliteValue.valueError "reflectlite.Value.Type" 0) (fun t _ _ _ => ReflectliteType.toType t)) Tryd.func27 (by kernel_rfl) (by kernel_rfl) (by kernel_rfl) (by kernel_rfl)
  have h79 := @run_callFunc_extern Tryd.prog 79 _ (ReflectliteType.abiMethod fun t => do pure (.int .u8 (← Rtype.kind t))) Tryd.func79 (by kernel_rfl) (by kernel_rfl) (by kernel_rfl) (by kernel_rfl)
  have h91 := @run_callFunc_extern Tryd.prog 91 _ (ReflectliteType.method ReflectliteType.elem) Tryd.func91 (by kernel_rfl) (by kernel_rfl) (by kernel_rfl) (by kernel_rfl)
  have h92 := @run_callFunc_extern Tryd.prog 92 _ (ReflectliteType.relation "Implements" ReflectliteType.implements_) Tryd.func92 (by kernel_rfl) (by kernel_rfl) (by kernel_rfl) (by kernel_rfl)
  have a1 := type53
  have a2 := mKind
  have a3 := mElem
  have a4 := mImpl
  have a5 := kind53
  have a6 := kind23
  have a7 := elem53
  have a8 := impl23
  obtain ⟨t, v, hc, ht⟩ := ch_iface l
  have hlp := fun (w : World) fr ga (hM : Mem w0 w fr [⟨ga, #[.pointer (some ⟨g, 0, none⟩)], 53, (0, 0)⟩, ⟨g, #[.int .i64 0], 23, (0, 0)⟩]) => as_loop l hM
  rw [hc] at hlp ⊢
  clear hc
  go_enter Tryd.func17, Tryd.ntmps17
  go_wp2_with (first | ((with_reducible refine wpl ?_); apply al_box (hM := hM); rfl; (first | exact want_none rfl | exact want_some rfl rfl rfl rfl); (first | (focus (go_simp; done)) | (focus (go_simp; rfl))); intro gb w1 hM1; clear hM; dsimp only [Value.cells] at hM1; have hM := hM1; clear hM1; simp only [Act.put, List.setIfInBounds_toArray, List.set_cons_zero, List.set_cons_succ]) | ((with_reducible refine wpl ?_); apply al_zero (hM := hM); rfl; (first | exact want_none rfl | exact want_some rfl rfl rfl rfl); (first | exact zero72 | exact zero23); intro gz w1 hM1; clear hM; dsimp only [Value.cells] at hM1; have hM := hM1; clear hM1; simp only [Act.put, List.setIfInBounds_toArray, List.set_cons_zero, List.set_cons_succ]) | ((with_reducible refine wpl ?_); apply ld_row (hM := hM); rfl; (first | exact want_none rfl | exact want_some rfl rfl rfl rfl); rfl; (first | exact .head _ _ | exact .tail (.head _ _) | exact .tail (.tail (.head _ _)) | exact .tail (.tail (.tail (.head _ _)))); (first | exact row72); simp only [Act.put, List.setIfInBounds_toArray, List.set_cons_zero, List.set_cons_succ]) | ((with_reducible refine wpl ?_); apply st_row (hM := hM); rfl; (first | exact want_none rfl | exact want_some rfl rfl rfl rfl); rfl; (first | (focus (go_simp; done)) | (focus (go_simp; rfl))); (first | exact .head _ _ | exact .tail (.head _ _) | exact .tail (.tail (.head _ _)) | exact .tail (.tail (.tail (.head _ _)))); rfl; rfl; (first | exact row72); intro w1 hM1; clear hM; (try simp only [List.setIfInBounds_toArray, List.set_cons_zero, List.set_cons_succ] at hM1);  have hM := hM1; clear hM1; simp only [Act.put, List.setIfInBounds_toArray, List.set_cons_zero, List.set_cons_succ]) | ((with_reducible refine wpl ?_); apply ld_one (hM := hM); rfl; (first | exact want_none rfl | exact want_some rfl rfl rfl rfl); rfl; (first | exact .head _ _ | exact .tail (.head _ _) | exact .tail (.tail (.head _ _)) | exact .tail (.tail (.tail (.head _ _)))); (first | (focus (simp only [List.getElem?_toArray, List.getElem?_cons_zero, List.getElem?_cons_succ]; rfl)) | rfl); (first | exact one29 | exact one23); simp only [Act.put, List.setIfInBounds_toArray, List.set_cons_zero, List.set_cons_succ]) | ((with_reducible refine wpl ?_); apply st_cell (hM := hM); rfl; (first | exact want_none rfl | exact want_some rfl rfl rfl rfl); rfl; (first | (focus (go_simp; done)) | (focus (go_simp; rfl))); (first | exact .head _ _ | exact .tail (.head _ _) | exact .tail (.tail (.head _ _)) | exact .tail (.tail (.tail (.head _ _)))); (first | (focus (simp; done)) | (focus (rw [tab_size]; omega))); rfl; (first | exact one29 | exact one23); intro w1 hM1; clear hM; (try simp only [List.setIfInBounds_toArray, List.set_cons_zero, List.set_cons_succ] at hM1);  have hM := hM1; clear hM1; simp only [Act.put, List.setIfInBounds_toArray, List.set_cons_zero, List.set_cons_succ]) | ((with_reducible refine wpl ?_); apply ex26 (hM := hM); rfl; (first | exact want_none rfl | exact want_some rfl rfl rfl rfl); (simp only [List.map_toArray, List.map_cons, List.map_nil]; rfl); intro ga w1 hM1; clear hM; have hM := hM1; clear hM1; simp only [Act.put, List.setIfInBounds_toArray, List.set_cons_zero, List.set_cons_succ]) | ((with_reducible refine wpl ?_); apply ex28 (hM := hM); rfl; (first | exact want_none rfl | exact want_some rfl rfl rfl rfl); (simp only [List.map_toArray, List.map_cons, List.map_nil]; rfl); (first | exact .head _ _ | exact .tail (.head _ _) | exact .tail (.tail (.head _ _)) | exact .tail (.tail (.tail (.head _ _)))); simp only [Act.put, List.setIfInBounds_toArray, List.set_cons_zero, List.set_cons_succ]) | ((with_reducible refine wpl ?_); apply ld_cell; rfl; (first | exact want_none rfl | exact want_some rfl rfl rfl rfl); rfl; exact (hM.oldCell (a := ⟨0, 0, none⟩) hlt).trans hg; exact one75; simp only [Act.put, List.setIfInBounds_toArray, List.set_cons_zero, List.set_cons_succ]) | (go_at_call 29; (with_reducible refine (hlp _ (_ :: fr) _ hM.over.swap).mono ?_); rintro e w3 ⟨rfl, hM1⟩; clear hM; have hM := hM1; clear hM1))
  go_ret
  exact ⟨rfl, hM.swap.tail.swap⟩

set_option maxRecDepth 100000 in
/-- The number that an error with places holds. -/
theorem code_ (w : World) (l : List Int) (hg : w.cell? ⟨0, 0, none⟩ = some (.iface 91 (.agg #[.pointer (some ⟨6, 29, none⟩)]))) :
    Calls Tryd.prog 6 #[ch l] w fun e w' => e = .returned (.int .i64 20) ∧ Below w.heap.size w w' := by
  have hlt : 0 < w.heap.size := by
    rcases Nat.eq_zero_or_pos w.heap.size with h0 | h
    · simp [World.cell?, h0] at hg
    · exact h
  have hM := Mem.start w
  obtain ⟨t, v, hc, ht⟩ := ch_iface l
  have hlp := fun (w' : World) g (hM : Mem w w' [] [⟨g, #[.int .i64 0], 23, (0, 0)⟩]) => as_ l hM hlt hg
  rw [hc] at hlp ⊢
  clear hc
  go_enter Tryd.func6, Tryd.ntmps6
  go_wp2_with (first | ((with_reducible refine wpl ?_); apply al_box (hM := hM); rfl; (first | exact want_none rfl | exact want_some rfl rfl rfl rfl); (first | (focus (go_simp; done)) | (focus (go_simp; rfl))); intro gb w1 hM1; clear hM; dsimp only [Value.cells] at hM1; have hM := hM1; clear hM1; simp only [Act.put, List.setIfInBounds_toArray, List.set_cons_zero, List.set_cons_succ]) | ((with_reducible refine wpl ?_); apply al_zero (hM := hM); rfl; (first | exact want_none rfl | exact want_some rfl rfl rfl rfl); (first | exact zero72 | exact zero23); intro gz w1 hM1; clear hM; dsimp only [Value.cells] at hM1; have hM := hM1; clear hM1; simp only [Act.put, List.setIfInBounds_toArray, List.set_cons_zero, List.set_cons_succ]) | ((with_reducible refine wpl ?_); apply ld_row (hM := hM); rfl; (first | exact want_none rfl | exact want_some rfl rfl rfl rfl); rfl; (first | exact .head _ _ | exact .tail (.head _ _) | exact .tail (.tail (.head _ _)) | exact .tail (.tail (.tail (.head _ _)))); (first | exact row72); simp only [Act.put, List.setIfInBounds_toArray, List.set_cons_zero, List.set_cons_succ]) | ((with_reducible refine wpl ?_); apply st_row (hM := hM); rfl; (first | exact want_none rfl | exact want_some rfl rfl rfl rfl); rfl; (first | (focus (go_simp; done)) | (focus (go_simp; rfl))); (first | exact .head _ _ | exact .tail (.head _ _) | exact .tail (.tail (.head _ _)) | exact .tail (.tail (.tail (.head _ _)))); rfl; rfl; (first | exact row72); intro w1 hM1; clear hM; (try simp only [List.setIfInBounds_toArray, List.set_cons_zero, List.set_cons_succ] at hM1);  have hM := hM1; clear hM1; simp only [Act.put, List.setIfInBounds_toArray, List.set_cons_zero, List.set_cons_succ]) | ((with_reducible refine wpl ?_); apply ld_one (hM := hM); rfl; (first | exact want_none rfl | exact want_some rfl rfl rfl rfl); rfl; (first | exact .head _ _ | exact .tail (.head _ _) | exact .tail (.tail (.head _ _)) | exact .tail (.tail (.tail (.head _ _)))); (first | (focus (simp only [List.getElem?_toArray, List.getElem?_cons_zero, List.getElem?_cons_succ]; rfl)) | rfl); (first | exact one29 | exact one23); simp only [Act.put, List.setIfInBounds_toArray, List.set_cons_zero, List.set_cons_succ]) | ((with_reducible refine wpl ?_); apply st_cell (hM := hM); rfl; (first | exact want_none rfl | exact want_some rfl rfl rfl rfl); rfl; (first | (focus (go_simp; done)) | (focus (go_simp; rfl))); (first | exact .head _ _ | exact .tail (.head _ _) | exact .tail (.tail (.head _ _)) | exact .tail (.tail (.tail (.head _ _)))); (first | (focus (simp; done)) | (focus (rw [tab_size]; omega))); rfl; (first | exact one29 | exact one23); intro w1 hM1; clear hM; (try simp only [List.setIfInBounds_toArray, List.set_cons_zero, List.set_cons_succ] at hM1);  have hM := hM1; clear hM1; simp only [Act.put, List.setIfInBounds_toArray, List.set_cons_zero, List.set_cons_succ]) | (go_at_call 17; (with_reducible refine (hlp _ _ hM).mono ?_); rintro e w3 ⟨rfl, hM1⟩; clear hM; have hM := hM1; clear hM1))
  go_ret
  exact ⟨rfl, hM.below⟩
end Go.Proofs.YtfpfdnckibaldaaDoor.G
