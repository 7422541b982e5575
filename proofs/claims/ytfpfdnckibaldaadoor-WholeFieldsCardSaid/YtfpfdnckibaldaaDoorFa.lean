/- Errors with a place, one within the other: made, wrapped, asked. No condition. -/
import Derived.Test.YtfpfdnckibaldaaDoorOp
import Derived.LaidEql
import Derived.Stop.Asserts
import Derived.RowKitTokens
import Derived.Deep.CutBlock
set_option linter.unusedSimpArgs false
set_option linter.unusedVariables false
namespace Go.Proofs.YtfpfdnckibaldaaDoor.F
open Go.Extern.Stop Go.Stop Go.Extern Go.RowKit Go.Proofs.YtfpfdnckibaldaaDoor.M Go.Proofs.YtfpfdnckibaldaaDoor.O


/-- A number within so many places. -/
def ch : List Int → Value
  | [] => .iface 23 (.int .i64 20)
  | p :: l => .iface 55 (.agg #[.int .i64 p, ch l])
theorem ch_iface (l : List Int) : ∃ t v, ch l = .iface t v ∧ (t = 23 ∨ t = 55) := by
  cases l with
  | nil => exact ⟨_, _, rfl, .inl rfl⟩
  | cons p l => exact ⟨_, _, rfl, .inr rfl⟩

theorem new_ok (w : World) (p : Int) : Calls Tryd.prog 7 #[.int .i64 20, .int .i64 p] w fun e w' => e = .returned (ch [p]) ∧ w = w' := by
  go_enter Tryd.func7, Tryd.ntmps7
  go_wp2
  go_ret
  exact ⟨rfl, rfl⟩
theorem new_nil (w : World) (p : Int) : Calls Tryd.prog 7 #[.int .i64 0, .int .i64 p] w fun e w' => e = .returned .nilIface ∧ w = w' := by
  go_enter Tryd.func7, Tryd.ntmps7
  go_wp2
  go_ret
  exact ⟨rfl, rfl⟩
theorem wrap_nil (w : World) (p : Int) : Calls Tryd.prog 9 #[.nilIface, .int .i64 p] w fun e w' => e = .returned .nilIface ∧ w = w' := by
  go_enter Tryd.func9, Tryd.ntmps9
  go_wp2
  go_ret
  exact ⟨rfl, rfl⟩
theorem wrap_ch (w : World) (p : Int) (l : List Int) : Calls Tryd.prog 9 #[ch l, .int .i64 p] w fun e w' => e = .returned (ch (p :: l)) ∧ w = w' := by
  obtain ⟨t, v, hc, ht⟩ := ch_iface l
  have e2 : ch (p :: l) = .iface 55 (.agg #[.int .i64 p, ch l]) := rfl
  rw [e2, hc]
  go_enter Tryd.func9, Tryd.ntmps9
  go_wp2
  go_ret
  exact ⟨rfl, rfl⟩

theorem one29 : OneTy Tryd.prog 29 := .of (by kernel_rfl)
theorem one55 : RowTy Tryd.prog 55 2 := .of (by kernel_rfl)
theorem zero55 : zeroIs Tryd.prog 55 (.agg #[.int .i64 0, .nilIface]) := by unfold zeroIs; kernel_rfl
theorem und29 : Tryd.prog.underlying 29 = some (.interface #[("Error", 62)]) := by kernel_rfl
theorem has84 (v : Value) (xT : TypeId) (w : World) : (Instr.typeAssert (.iface 55 v) xT 84 true).run Tryd.prog w = .ok (.tuple #[.iface 55 v, .bool true]) w := run_typeAssert_hasB Tryd.underlying84 (by kernel_rfl) v xT w
theorem lacks84 (v : Value) (xT : TypeId) (w : World) : (Instr.typeAssert (.iface 23 v) xT 84 true).run Tryd.prog w = .ok (.tuple #[.nilIface, .bool false]) w := run_typeAssert_lacksB Tryd.underlying84 (by kernel_rfl) (by kernel_rfl) v xT w
theorem lacks101 (v : Value) (xT : TypeId) (w : World) : (Instr.typeAssert (.iface 55 v) xT 101 true).run Tryd.prog w = .ok (.tuple #[.nilIface, .bool false]) w := run_typeAssert_lacksB Tryd.underlying101 (by kernel_rfl) (by kernel_rfl) v xT w
theorem lacks101' (v : Value) (xT : TypeId) (w : World) : (Instr.typeAssert (.iface 23 v) xT 101 true).run Tryd.prog w = .ok (.tuple #[.nilIface, .bool false]) w := run_typeAssert_lacksB Tryd.underlying101 (by kernel_rfl) (by kernel_rfl) v xT w
theorem mUnwrap (v : Value) (w : World) : (Go.method 269 55 v "Unwrap").run Tryd.prog w = .ok (84, v) w := by kernel_rfl

theorem unwrap_at (w : World) (p : Int) (x : Value) : Calls Tryd.prog 84 #[.agg #[.int .i64 p, x]] w fun e w' => e = .returned x ∧ Below w.heap.size w w' := by
  have hM := Mem.start w
  go_enter Tryd.func84, Tryd.ntmps84
  go_wp2_with (first | ((with_reducible refine wpl ?_); apply al_box (hM := hM); rfl; (first | exact want_none rfl | exact want_some rfl rfl rfl rfl); (first | (focus (go_simp; done)) | (focus (go_simp; rfl))); intro gb w1 hM1; clear hM; dsimp only [Value.cells] at hM1; have hM := hM1; clear hM1; simp only [Act.put, List.setIfInBounds_toArray, List.set_cons_zero, List.set_cons_succ]) | ((with_reducible refine wpl ?_); apply al_zero (hM := hM); rfl; (first | exact want_none rfl | exact want_some rfl rfl rfl rfl); (first | exact zero55); intro gz w1 hM1; clear hM; dsimp only [Value.cells] at hM1; have hM := hM1; clear hM1; simp only [Act.put, List.setIfInBounds_toArray, List.set_cons_zero, List.set_cons_succ]) | ((with_reducible refine wpl ?_); apply ld_row (hM := hM); rfl; (first | exact want_none rfl | exact want_some rfl rfl rfl rfl); rfl; (first | exact .head _ _ | exact .tail (.head _ _)); (first | exact one55); simp only [Act.put, List.setIfInBounds_toArray, List.set_cons_zero, List.set_cons_succ]) | ((with_reducible refine wpl ?_); apply st_row (hM := hM); rfl; (first | exact want_none rfl | exact want_some rfl rfl rfl rfl); rfl; (first | (focus (go_simp; done)) | (focus (go_simp; rfl))); (first | exact .head _ _ | exact .tail (.head _ _)); rfl; rfl; (first | exact one55); intro w1 hM1; clear hM; (try simp only [List.setIfInBounds_toArray, List.set_cons_zero, List.set_cons_succ] at hM1);  have hM := hM1; clear hM1; simp only [Act.put, List.setIfInBounds_toArray, List.set_cons_zero, List.set_cons_succ]) | ((with_reducible refine wpl ?_); apply ld_one (hM := hM); rfl; (first | exact want_none rfl | exact want_some rfl rfl rfl rfl); rfl; (first | exact .head _ _ | exact .tail (.head _ _)); (first | (focus (simp only [List.getElem?_toArray, List.getElem?_cons_zero, List.getElem?_cons_succ]; rfl)) | rfl); (first | exact one29); simp only [Act.put, List.setIfInBounds_toArray, List.set_cons_zero, List.set_cons_succ]) | ((with_reducible refine wpl ?_); apply st_cell (hM := hM); rfl; (first | exact want_none rfl | exact want_some rfl rfl rfl rfl); rfl; (first | (focus (go_simp; done)) | (focus (go_simp; rfl))); (first | exact .head _ _ | exact .tail (.head _ _)); (first | (focus (simp; done)) | (focus (rw [tab_size]; omega))); rfl; (first | exact one29); intro w1 hM1; clear hM; (try simp only [List.setIfInBounds_toArray, List.set_cons_zero, List.set_cons_succ] at hM1);  have hM := hM1; clear hM1; simp only [Act.put, List.setIfInBounds_toArray, List.set_cons_zero, List.set_cons_succ]))
  go_ret
  exact ⟨rfl, hM.below⟩

theorem unwrap_ch (w : World) (p : Int) (l : List Int) : Calls Tryd.prog 20 #[ch (p :: l)] w fun e w' => e = .returned (ch l) ∧ Below w.heap.size w w' := by
  have e2 : ch (p :: l) = .iface 55 (.agg #[.int .i64 p, ch l]) := rfl
  rw [e2]
  have hu := has84
  have hm := mUnwrap
  generalize ch l = x
  go_enter Tryd.func20, Tryd.ntmps20
  go_wp2_with (go_at_call 84; (with_reducible refine (unwrap_at _ p x).mono ?_); rintro e w3 ⟨rfl, hb⟩)
  go_ret
  exact ⟨rfl, hb⟩
theorem unwrap_nil (w : World) : Calls Tryd.prog 20 #[ch []] w fun e w' => e = .returned .nilIface ∧ Below w.heap.size w w' := by
  have e2 : ch [] = .iface 23 (.int .i64 20) := rfl
  rw [e2]
  have hu := lacks84
  go_enter Tryd.func20, Tryd.ntmps20
  go_wp2
  go_ret
  exact ⟨rfl, Below.refl _ _⟩

theorem as55 (v : Value) (xT : TypeId) (w : World) : (Instr.typeAssert (.iface 55 v) xT 55 true).run Tryd.prog w = .ok (.tuple #[v, .bool true]) w := by kernel_rfl
theorem as55' (v : Value) (xT : TypeId) (w : World) : (Instr.typeAssert (.iface 23 v) xT 55 true).run Tryd.prog w = .ok (.tuple #[.agg #[.int .i64 0, .nilIface], .bool false]) w := by kernel_rfl
set_option maxHeartbeats 2000000 in
theorem depth_ (w : World) (l : List Int) (hl : l.length ≤ 1000) : Calls Tryd.prog 12 #[ch l] w fun e w' => e = .returned (.int .i64 (l.length : Nat)) ∧ Below w.heap.size w w' := by
  have hM := Mem.start w
  have ha := as55
  have ha' := as55'
  go_enter Tryd.func12, Tryd.ntmps12
  go_wp2
  go_loopg [0, 3] (l.length + 1) (fun gk x0 x3 wr => Mem w wr [] [] ∧ ((∃ l' : List Int, x0 = ch l' ∧ gk = l'.length + 1 ∧ Hid (l'.length ≤ l.length) ∧ x3 = .int .i64 ((l.length : Int) - l'.length)) ∨ (gk = 0 ∧ x0 = .nilIface ∧ x3 = .int .i64 (l.length : Nat))))
  case atStart => exact ⟨hM, .inl ⟨l, rfl, rfl, Nat.le_refl _, by simp⟩⟩
  case round =>
    obtain ⟨hMr, hcase⟩ := hrel
    clear hM
    have hM := hMr
    clear hMr
    rcases hcase with ⟨l', rfl, hgk, hle, rfl⟩ | ⟨hgk, rfl, rfl⟩
    · replace hgk := hd_ hgk
      cases l' with
      | nil =>
        have e2 : ch [] = .iface 23 (.int .i64 20) := rfl
        have hun := unwrap_nil
        rw [e2] at hun ⊢
        go_wp2_with (first | ((with_reducible refine wpl ?_); apply al_box (hM := hM); rfl; (first | exact want_none rfl | exact want_some rfl rfl rfl rfl); (first | (focus (go_simp; done)) | (focus (go_simp; rfl))); intro gb w1 hM1; clear hM; dsimp only [Value.cells] at hM1; have hM := hM1; clear hM1; simp only [Act.put, List.setIfInBounds_toArray, List.set_cons_zero, List.set_cons_succ]) | ((with_reducible refine wpl ?_); apply al_zero (hM := hM); rfl; (first | exact want_none rfl | exact want_some rfl rfl rfl rfl); (first | exact zero55); intro gz w1 hM1; clear hM; dsimp only [Value.cells] at hM1; have hM := hM1; clear hM1; simp only [Act.put, List.setIfInBounds_toArray, List.set_cons_zero, List.set_cons_succ]) | ((with_reducible refine wpl ?_); apply ld_row (hM := hM); rfl; (first | exact want_none rfl | exact want_some rfl rfl rfl rfl); rfl; (first | exact .head _ _ | exact .tail (.head _ _)); (first | exact one55); simp only [Act.put, List.setIfInBounds_toArray, List.set_cons_zero, List.set_cons_succ]) | ((with_reducible refine wpl ?_); apply st_row (hM := hM); rfl; (first | exact want_none rfl | exact want_some rfl rfl rfl rfl); rfl; (first | (focus (go_simp; done)) | (focus (go_simp; rfl))); (first | exact .head _ _ | exact .tail (.head _ _)); rfl; rfl; (first | exact one55); intro w1 hM1; clear hM; (try simp only [List.setIfInBounds_toArray, List.set_cons_zero, List.set_cons_succ] at hM1);  have hM := hM1; clear hM1; simp only [Act.put, List.setIfInBounds_toArray, List.set_cons_zero, List.set_cons_succ]) | ((with_reducible refine wpl ?_); apply ld_one (hM := hM); rfl; (first | exact want_none rfl | exact want_some rfl rfl rfl rfl); rfl; (first | exact .head _ _ | exact .tail (.head _ _)); (first | (focus (simp only [List.getElem?_toArray, List.getElem?_cons_zero, List.getElem?_cons_succ]; rfl)) | rfl); (first | exact one29); simp only [Act.put, List.setIfInBounds_toArray, List.set_cons_zero, List.set_cons_succ]) | ((with_reducible refine wpl ?_); apply st_cell (hM := hM); rfl; (first | exact want_none rfl | exact want_some rfl rfl rfl rfl); rfl; (first | (focus (go_simp; done)) | (focus (go_simp; rfl))); (first | exact .head _ _ | exact .tail (.head _ _)); (first | (focus (simp; done)) | (focus (rw [tab_size]; omega))); rfl; (first | exact one29); intro w1 hM1; clear hM; (try simp only [List.setIfInBounds_toArray, List.set_cons_zero, List.set_cons_succ] at hM1);  have hM := hM1; clear hM1; simp only [Act.put, List.setIfInBounds_toArray, List.set_cons_zero, List.set_cons_succ]) | (go_at_call 20; (with_reducible refine (hun _).mono ?_); rintro e w3 ⟨rfl, hb⟩; replace hM := hM.step hb; clear hb))
        go_roundg 0
        case measure => have := hgk.out; omega
        case rel => exact ⟨hM.tail, .inr ⟨rfl, rfl, by simp⟩⟩
      | cons p l2 =>
        obtain ⟨t, v, hc, ht⟩ := ch_iface l2
        have e2 : ch (p :: l2) = .iface 55 (.agg #[.int .i64 p, .iface t v]) := by rw [← hc]; rfl
        have hun := unwrap_ch
        replace hun := fun w => hun w p l2
        rw [e2, hc] at hun
        rw [e2]
        replace hc := hd_ hc
        obtain ⟨k, hk⟩ : ∃ k : Nat, (l.length : Int) - ((p :: l2).length : Nat) = (k : Int) := ⟨l.length - (l2.length + 1), by have := hle.out; simp only [List.length_cons] at this ⊢; omega⟩
        have hkl : k ≤ 1000 := by omega
        rw [hk]
        replace hk := hd_ hk
        go_wp2_with (first | ((with_reducible refine wpl ?_); apply al_box (hM := hM); rfl; (first | exact want_none rfl | exact want_some rfl rfl rfl rfl); (first | (focus (go_simp; done)) | (focus (go_simp; rfl))); intro gb w1 hM1; clear hM; dsimp only [Value.cells] at hM1; have hM := hM1; clear hM1; simp only [Act.put, List.setIfInBounds_toArray, List.set_cons_zero, List.set_cons_succ]) | ((with_reducible refine wpl ?_); apply al_zero (hM := hM); rfl; (first | exact want_none rfl | exact want_some rfl rfl rfl rfl); (first | exact zero55); intro gz w1 hM1; clear hM; dsimp only [Value.cells] at hM1; have hM := hM1; clear hM1; simp only [Act.put, List.setIfInBounds_toArray, List.set_cons_zero, List.set_cons_succ]) | ((with_reducible refine wpl ?_); apply ld_row (hM := hM); rfl; (first | exact want_none rfl | exact want_some rfl rfl rfl rfl); rfl; (first | exact .head _ _ | exact .tail (.head _ _)); (first | exact one55); simp only [Act.put, List.setIfInBounds_toArray, List.set_cons_zero, List.set_cons_succ]) | ((with_reducible refine wpl ?_); apply st_row (hM := hM); rfl; (first | exact want_none rfl | exact want_some rfl rfl rfl rfl); rfl; (first | (focus (go_simp; done)) | (focus (go_simp; rfl))); (first | exact .head _ _ | exact .tail (.head _ _)); rfl; rfl; (first | exact one55); intro w1 hM1; clear hM; (try simp only [List.setIfInBounds_toArray, List.set_cons_zero, List.set_cons_succ] at hM1);  have hM := hM1; clear hM1; simp only [Act.put, List.setIfInBounds_toArray, List.set_cons_zero, List.set_cons_succ]) | ((with_reducible refine wpl ?_); apply ld_one (hM := hM); rfl; (first | exact want_none rfl | exact want_some rfl rfl rfl rfl); rfl; (first | exact .head _ _ | exact .tail (.head _ _)); (first | (focus (simp only [List.getElem?_toArray, List.getElem?_cons_zero, List.getElem?_cons_succ]; rfl)) | rfl); (first | exact one29); simp only [Act.put, List.setIfInBounds_toArray, List.set_cons_zero, List.set_cons_succ]) | ((with_reducible refine wpl ?_); apply st_cell (hM := hM); rfl; (first | exact want_none rfl | exact want_some rfl rfl rfl rfl); rfl; (first | (focus (go_simp; done)) | (focus (go_simp; rfl))); (first | exact .head _ _ | exact .tail (.head _ _)); (first | (focus (simp; done)) | (focus (rw [tab_size]; omega))); rfl; (first | exact one29); intro w1 hM1; clear hM; (try simp only [List.setIfInBounds_toArray, List.set_cons_zero, List.set_cons_succ] at hM1);  have hM := hM1; clear hM1; simp only [Act.put, List.setIfInBounds_toArray, List.set_cons_zero, List.set_cons_succ]) | (go_at_call 20; (with_reducible refine (hun _).mono ?_); rintro e w3 ⟨rfl, hb⟩; replace hM := hM.step hb; clear hb))
        go_roundg (l2.length + 1)
        case measure => have := hgk.out; simp only [List.length_cons] at this; omega
        case rel => exact ⟨hM.tail, .inl ⟨l2, hc.out.symm, rfl, by have := hle.out; simp only [List.length_cons] at this; show l2.length ≤ l.length; omega, by have := hk.out; simp only [List.length_cons] at this; congr 1; omega⟩⟩
    · go_wp2
      go_ret
      exact ⟨rfl, hM.below⟩

theorem typeOf23 (v : Value) (w : World) : (Extern.ReflectliteType.typeOf #[.iface 23 v]).run Tryd.prog w = .ok (.iface 91 (.agg #[.pointer (some ⟨6, 23, none⟩)])) w := by kernel_rfl
theorem comp23 (w : World) : ((Extern.ReflectliteType.method fun t => do Extern.Rtype.noPackHeld "Comparable" t; (fun a => Value.bool a.comparable) <$> typeInfo t) #[.agg #[.pointer (some ⟨6, 23, none⟩)]]).run Tryd.prog w = .ok (.bool true) w := by kernel_rfl
theorem mComp (v : Value) (w : World) : (Go.method 269 91 v "Comparable").run Tryd.prog w = .ok (90, v) w := by kernel_rfl
theorem eq23 (w : World) : (binOp .eql 29 (.iface 23 (.int .i64 20)) (.iface 23 (.int .i64 20))).run Tryd.prog w = .ok (.bool true) w := by kernel_rfl
theorem ne55 (v x : Value) (w : World) : (binOp .eql 29 (.iface 55 v) (.iface 23 x)).run Tryd.prog w = .ok (.bool false) w := run_eql_iface_types 55 23 v x Tryd.underlying29 (by decide) w

set_option maxRecDepth 100000 in
set_option maxHeartbeats 2000000 in
theorem is_loop (w : World) (l : List Int) : Calls Tryd.prog 31 #[ch l, .iface 23 (.int .i64 20), .bool true] w fun e w' => e = .returned (.bool true) ∧ Below w.heap.size w w' := by
  have hM := Mem.start w
  have a1 := eq23
  have a2 := ne55
  have a3 := lacks101
  have a5 := has84
  have a6 := mUnwrap
  go_enter Tryd.func31, Tryd.ntmps31
  go_wp2
  go_loopg [0] (l.length) (fun gk x0 wr => ∃ l' : List Int, x0 = ch l' ∧ gk = l'.length ∧ Mem w wr [] [])
  case atStart => exact ⟨l, rfl, rfl, hM⟩
  case round =>
    obtain ⟨l', rfl, hgk, hMr⟩ := hrel
    clear hM
    have hM := hMr
    clear hMr
    replace hgk := hd_ hgk
    cases l' with
    | nil =>
      have e2 : ch [] = .iface 23 (.int .i64 20) := rfl
      rw [e2]
      go_wp2
      go_ret
      exact ⟨rfl, hM.below⟩
    | cons p l2 =>
      obtain ⟨t, v, hc, ht⟩ := ch_iface l2
      have e2 : ch (p :: l2) = .iface 55 (.agg #[.int .i64 p, .iface t v]) := by rw [← hc]; rfl
      rw [e2]
      replace hc := hd_ hc
      go_wp2_with (first | (go_at_call 84; (with_reducible refine (unwrap_at _ p (.iface t v)).mono ?_); rintro e w3 ⟨rfl, hb⟩; replace hM := hM.step hb; clear hb))
      go_roundg (l2.length)
      case measure => have := hgk.out; simp only [List.length_cons] at this; omega
      case rel => exact ⟨l2, hc.out.symm, rfl, hM⟩

set_option maxRecDepth 100000 in
set_option maxHeartbeats 2000000 in
theorem is_ (w : World) (l : List Int) : Calls Tryd.prog 11 #[ch l, .int .i64 20] w fun e w' => e = .returned (.bool true) ∧ Below w.heap.size w w' := by
  have h30 := @run_callFunc_extern Tryd.prog 30 _ Extern.ReflectliteType.typeOf Tryd.func30 (by kernel_rfl) (by kernel_rfl) (by kernel_rfl) (by kernel_rfl)
  have h90 := @run_callFunc_extern Tryd.prog 90 _ (Extern.ReflectliteType.method fun t => do Extern.Rtype.noPackHeld "Comparable" t; pure (.bool (← typeInfo t).comparable)) Tryd.func90 (by kernel_rfl) (by kernel_rfl) (by kernel_rfl) (by kernel_rfl)
  have b1 := typeOf23
  have b2 := comp23
  have b3 := mComp
  obtain ⟨t, v, hc, ht⟩ := ch_iface l
  have hlp := fun w => is_loop w l
  rw [hc] at hlp ⊢
  clear hc
  have hIs : Calls Tryd.prog 19 #[.iface t v, .iface 23 (.int .i64 20)] w fun e w' => e = .returned (.bool true) ∧ Below w.heap.size w w' := by
    go_enter Tryd.func19, Tryd.ntmps19
    go_wp2_with (go_at_call 31; (with_reducible refine (hlp _).mono ?_); rintro e w3 ⟨rfl, hb⟩)
    go_ret
    exact ⟨rfl, hb⟩
  go_enter Tryd.func11, Tryd.ntmps11
  go_wp2_with (go_at_call 19; (with_reducible refine hIs.mono ?_); rintro e w3 ⟨rfl, hb⟩)
  go_ret
  exact ⟨rfl, hb⟩
end Go.Proofs.YtfpfdnckibaldaaDoor.F
