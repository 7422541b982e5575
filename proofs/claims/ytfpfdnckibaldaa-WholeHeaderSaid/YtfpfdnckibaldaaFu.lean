/- Whole names; whether a byte 0 stands ahead; a header with its sum. No condition. -/
import Derived.Test.YtfpfdnckibaldaaRi
set_option linter.unusedSimpArgs false
set_option linter.unusedVariables false
namespace Go.Proofs.Ytfpfdnckibaldaa.H
open Go.RowKit Go.Proofs.Ytfpfdnckibaldaa.M Go.Proofs.Ytfpfdnckibaldaa.O


theorem str_app (a b : List UInt8) : (ByteArray.mk a.toArray) ++ (ByteArray.mk b.toArray) = ByteArray.mk (a ++ b).toArray := by
  apply ByteArray.ext
  simp [ByteArray.data_append]
theorem run_add_str {a b : List UInt8} (hl : a.length + b.length ≤ 1000000) (w : World) : (binOp .add 9 (.string ⟨a.toArray⟩) (.string ⟨b.toArray⟩)).run Try.prog w = .ok (.string ⟨(a ++ b).toArray⟩) w := by
  rw [← str_app]
  have h1 : (ByteArray.mk a.toArray).size = a.length := rfl
  have h2 : (ByteArray.mk b.toArray).size = b.length := rfl
  go_simp
  omega
theorem run_add_op {a : Act} {oi : Oper} {x y : Operand} {bs t : List UInt8} {ty : TypeId} (hop : oi.op = .binOp .add 9 x y ty) (hx : a.eval x = .string ⟨bs.toArray⟩) (hy : a.eval y = .string ⟨t.toArray⟩) (hl : bs.length + t.length ≤ 1000000) (w : World) :
    (execOp a.eval oi).run Try.prog w = .ok (.value (.string ⟨(bs ++ t).toArray⟩)) w := by
  unfold execOp
  simp only [hop, hx, hy, Sem.run_bind, run_add_str hl, Result.andThen_ok]
  rfl
theorem has5 : ((Try.prog.info? 5).map (·.size)).isSome = true := by kernel_rfl
/-- A header's whole name. -/
def full (pr nm : List UInt8) : List UInt8 := if pr = [] then nm else pr ++ [47] ++ nm
set_option maxHeartbeats 2000000 in
theorem full_ (w : World) (f0 f2 f4 f5 f6 f7 f8 f9 f10 f11 : Value) (nm pr : List UInt8) (h1 : nm.length ≤ 100000) (h2 : pr.length ≤ 100000) :
    Calls Try.prog 8 #[.agg #[f0, .string ⟨nm.toArray⟩, f2, .string ⟨pr.toArray⟩, f4, f5, f6, f7, f8, f9, f10, f11]] w fun e w' => e = .returned (.string ⟨(full pr nm).toArray⟩) ∧ Below w.heap.size w w' := by
  have hM := Mem.start w
  by_cases hp : pr = []
  · subst hp
    go_enter Try.func8, Try.ntmps8
    go_wp2_with (first | ((with_reducible refine wpl ?_); apply al_box (hM := hM); rfl; (first | exact want_none rfl | exact want_some rfl rfl rfl rfl); (first | (focus (go_simp; done)) | (focus (go_simp; rfl))); intro gb w1 hM1; clear hM; dsimp only [Value.cells] at hM1; have hM := hM1; clear hM1; simp only [Act.put, List.setIfInBounds_toArray, List.set_cons_zero, List.set_cons_succ]) | ((with_reducible refine wpl ?_); apply ld_one (hM := hM); rfl; (first | exact want_none rfl | exact want_some rfl rfl rfl rfl); rfl; (first | exact .head _ _ | exact .tail (.head _ _)); (first | (focus (simp only [List.getElem?_toArray, List.getElem?_cons_zero, List.getElem?_cons_succ]; rfl)) | rfl); (first | exact one9); simp only [Act.put, List.setIfInBounds_toArray, List.set_cons_zero, List.set_cons_succ]) | ((with_reducible refine wpl ?_); apply st_cell (hM := hM); rfl; (first | exact want_none rfl | exact want_some rfl rfl rfl rfl); rfl; (first | (focus (go_simp; done)) | (focus (go_simp; rfl))); (first | exact .head _ _ | exact .tail (.head _ _)); (first | (focus (simp; done)) | (focus (rw [tab_size]; omega))); rfl; (first | exact one9); intro w1 hM1; clear hM; (try simp only [List.setIfInBounds_toArray, List.set_cons_zero, List.set_cons_succ] at hM1);  have hM := hM1; clear hM1; simp only [Act.put, List.setIfInBounds_toArray, List.set_cons_zero, List.set_cons_succ]))
    go_ret
    exact ⟨rfl, hM.below⟩
  · have hpe : pr.isEmpty = false := by cases pr with | nil => exact absurd rfl hp | cons a l => rfl
    have e : full pr nm = pr ++ [47] ++ nm := if_neg hp
    go_enter Try.func8, Try.ntmps8
    go_wp2_with (first | ((with_reducible refine wpl ?_); apply al_box (hM := hM); rfl; (first | exact want_none rfl | exact want_some rfl rfl rfl rfl); (first | (focus (go_simp; done)) | (focus (go_simp; rfl))); intro gb w1 hM1; clear hM; dsimp only [Value.cells] at hM1; have hM := hM1; clear hM1; simp only [Act.put, List.setIfInBounds_toArray, List.set_cons_zero, List.set_cons_succ]) | ((with_reducible refine wpl ?_); apply ld_one (hM := hM); rfl; (first | exact want_none rfl | exact want_some rfl rfl rfl rfl); rfl; (first | exact .head _ _ | exact .tail (.head _ _)); (first | (focus (simp only [List.getElem?_toArray, List.getElem?_cons_zero, List.getElem?_cons_succ]; rfl)) | rfl); (first | exact one9); simp only [Act.put, List.setIfInBounds_toArray, List.set_cons_zero, List.set_cons_succ]) | ((with_reducible refine wpl ?_); apply st_cell (hM := hM); rfl; (first | exact want_none rfl | exact want_some rfl rfl rfl rfl); rfl; (first | (focus (go_simp; done)) | (focus (go_simp; rfl))); (first | exact .head _ _ | exact .tail (.head _ _)); (first | (focus (simp; done)) | (focus (rw [tab_size]; omega))); rfl; (first | exact one9); intro w1 hM1; clear hM; (try simp only [List.setIfInBounds_toArray, List.set_cons_zero, List.set_cons_succ] at hM1);  have hM := hM1; clear hM1; simp only [Act.put, List.setIfInBounds_toArray, List.set_cons_zero, List.set_cons_succ]) | ((with_reducible refine wpl ?_); apply any_val (v := .string ⟨(pr ++ [47]).toArray⟩); (first | exact want_none rfl | exact want_some rfl rfl rfl rfl); exact run_add_op rfl rfl rfl (by simp only [List.length_append, List.length_singleton]; omega) _; simp only [Act.put, List.setIfInBounds_toArray, List.set_cons_zero, List.set_cons_succ]) | ((with_reducible refine wpl ?_); apply any_val (v := .string ⟨(pr ++ [47] ++ nm).toArray⟩); (first | exact want_none rfl | exact want_some rfl rfl rfl rfl); exact run_add_op rfl rfl rfl (by simp only [List.length_append, List.length_singleton]; omega) _; simp only [Act.put, List.setIfInBounds_toArray, List.set_cons_zero, List.set_cons_succ]))
    go_ret
    exact ⟨by rw [e]; rfl, hM.below⟩

theorem mn_hund {P : Program} {ops : Array Oper} {Q : Exit → Act → World → Prop} {a : Act} {w : World} {o : Oper} {R : Act → World → Prop} {x c : Operand} {k : Nat} (hop : o.op = .call { callee := .builtin .min, args := #[x, c], argTypes := #[3, 3] }) (hw : Region.wanted o (yielded ops a.tmps) = true) (hx : a.eval x = .int .i64 (k : Int)) (hc : a.eval c = .int .i64 100)
    (hk : k < 100) (h : R (a.put o.dst (.int .i64 (k : Int))) w) : WPK P ops Q R o a w :=
  wanted hw fun K hK => by
    have hrun : (Builtin.min_ #[3, 3] o.type #[.int .i64 (k : Int), .int .i64 100]).run P w = .ok (.int .i64 (k : Int)) w := by
      have h1 : ¬ ((100 : Int) < (k : Int)) := by omega
      simp [Builtin.min_, Builtin.min2, h1]
      try omega
    unfold Oper.wp
    simp only [execOp, hop, resolve, Sem.run_bind, Sem.run_pure, Result.andThen_ok, invoke, builtin, List.map_toArray, List.map_cons, List.map_nil, hc, hx, hrun]
    exact hK _ _ h

set_option maxHeartbeats 2000000 in
theorem hidden_ (w : World) (g c k : Nat) (D : Nat → UInt8) (hA : At w g 0 (seg D 0 512)) (hc : 512 ≤ c) (hk : k < 100) : Calls Try.prog 10 #[.slice (some ⟨g, 0, none⟩) 512 c, .int .i64 (k : Int)] w fun e w' => ∃ b, e = .returned (.bool b) ∧ w = w' ∧ (b = false → ∀ j, j < k → D j ≠ 0) := by
  go_enter Try.func10, Try.ntmps10
  go_wp2_with (first | ((with_reducible refine wpl ?_); apply mn_hund (k := k); rfl; (first | exact want_none rfl | exact want_some rfl rfl rfl rfl); rfl; rfl; exact hk; simp only [Act.put, List.setIfInBounds_toArray, List.set_cons_zero, List.set_cons_succ]) | ((with_reducible refine wpl ?_); apply sl_h k (e := 5); rfl; (first | exact want_none rfl | exact want_some rfl rfl rfl rfl); exact und24; exact has5; rfl; rfl; rfl; omega; simp only [Act.put, List.setIfInBounds_toArray, List.set_cons_zero, List.set_cons_succ]))
  go_loopw [12] (fun x12 wr => ∃ i : Nat, i ≤ k ∧ x12 = .int .i64 i ∧ Hid (∀ j, j < i → D j ≠ 0) ∧ w = wr) (fun x12 _ => k - (intOf x12).toNat)
  case atStart => exact ⟨0, Nat.zero_le _, by go_num, hd_ (fun j h => absurd h (Nat.not_lt_zero _)), rfl⟩
  case round =>
    obtain ⟨i, hi, rfl, hz, rfl⟩ := hrel
    by_cases hlt : i < k
    · have hci := (at_part (o := i) (k := 1) hA (by omega)).cell (j := 0) (by rw [seg_len]; omega)
      have hsg : (seg D i 1)[0]'(by rw [seg_len]; omega) = D i := by simp [seg]
      rw [hsg, Nat.add_zero] at hci
      have hlti : (i : Int) < (k : Int) := by omega
      have hki : (k : Int) < 100 := by omega
      obtain ⟨b, hb⟩ : ∃ b, Hid ((D i).toNat = b) := ⟨_, hd_ rfl⟩
      rw [hb.out] at hci
      clear hsg
      by_cases h0 : b = 0
      · have f1 : ((b : Int) == 0) = true := beq_iff_eq.2 (by omega)
        replace h0 := hd_ h0
        go_wp2_with (first | ((with_reducible refine wpl ?_); apply ld_cell; rfl; (first | exact want_none rfl | exact want_some rfl rfl rfl rfl); rfl; (first | exact hci); exact one5; simp only [Act.put, List.setIfInBounds_toArray, List.set_cons_zero, List.set_cons_succ]))
        go_ret
        exact ⟨_, rfl, rfl, fun h => absurd h (by decide)⟩
      · have f1 : ((b : Int) == 0) = false := beq_eq_false_iff_ne.2 (by omega)
        go_wp2_with (first | ((with_reducible refine wpl ?_); apply ld_cell; rfl; (first | exact want_none rfl | exact want_some rfl rfl rfl rfl); rfl; (first | exact hci); exact one5; simp only [Act.put, List.setIfInBounds_toArray, List.set_cons_zero, List.set_cons_succ]))
        go_roundw
        case rel =>
          refine ⟨i + 1, by omega, by go_num, hd_ (fun j hj e => ?_), trivial⟩
          rcases Nat.lt_or_ge j i with h | h
          · exact hz.out j h e
          · have e2 : j = i := by omega
            subst e2
            rw [e] at hb
            exact h0 hb.out.symm
        case measure => simp [intOf] <;> omega
    · obtain rfl : i = k := by omega
      go_wp2
      go_ret
      exact ⟨_, rfl, rfl, fun _ => hz.out⟩
end Go.Proofs.Ytfpfdnckibaldaa.H
