/- Two headers compared. No condition. -/
import Derived.Test.YtfpfdnckibaldaaDe
import Derived.Laws.StructEq
set_option linter.unusedSimpArgs false
set_option linter.unusedVariables false
namespace Go.Proofs.Ytfpfdnckibaldaa.H
open Go.RowKit Go.Proofs.Ytfpfdnckibaldaa.M Go.Proofs.Ytfpfdnckibaldaa.O


theorem guard23 : Try.prog.eqGuardType Try.prog.depth 23 = false := by kernel_rfl
theorem held23 : Try.prog.stoodInHeld 23 = false := by kernel_rfl
theorem und23 : Try.prog.underlying 23 = some (.struct (Try.prog.fieldsOf 23)) := by kernel_rfl
theorem und3 : Try.prog.underlying 3 = some (.int .i64) := by kernel_rfl
theorem und2 : Try.prog.underlying 2 = some (.int .i64) := by kernel_rfl

/-- The fields' places and types. -/
def places : List (Nat × TypeId) := [(0, 3), (1, 9), (2, 9), (3, 9), (4, 9), (5, 9), (6, 5), (7, 2), (8, 2), (9, 2), (10, 2), (11, 2)]
theorem fields_ok : (Try.prog.fieldsOf 23).toList.all (fun f => f.name != "_" && places.contains (f.offset, f.type)) = true := by kernel_rfl
theorem has_name : (Try.prog.fieldsOf 23).toList.any (fun f => f.offset == 1) = true := by kernel_rfl

theorem part_one {ty : TypeId} {off : Nat} {cs : Array Value} {v : Value} (ht : OneTy Try.prog ty) (hv : cs[off]? = some v) (w : World) : (part ty cs off).run Try.prog w = .ok v w := by
  obtain ⟨d, hu, hd⟩ := ht.one
  have hagg : (isAgg ty).run Try.prog w = .ok false w := by
    unfold isAgg
    rw [Sem.run_bind, run_underlying hu w]
    cases d <;> simp_all
  simp [part, Sem.run_bind, hagg, hv]

theorem place_eq (h1 h2 : Hd) (off : Nat) (ty : TypeId) (hp : (off, ty) ∈ places) : ∃ u v r, (hcells h1)[off]? = some u ∧ (hcells h2)[off]? = some v ∧ OneTy Try.prog ty ∧ (∀ w, (Op.equalIn 9999 ty u v).run Try.prog w = .ok r w) ∧ (off = 1 → r = true → h1.nm = h2.nm) := by
  have num : ∀ (ty : TypeId) (k : IntKind) (a b : Int), Try.prog.underlying ty = some (.int k) → ∀ w, (Op.equalIn 9999 ty (.int k a) (.int k b)).run Try.prog w = .ok (a == b) w := fun ty k a b hu w => run_equalIn_int w 9998 ty k k a b hu
  have str : ∀ (a b : List UInt8) w, (Op.equalIn 9999 9 (.string ⟨a.toArray⟩) (.string ⟨b.toArray⟩)).run Try.prog w = .ok ((⟨a.toArray⟩ : ByteArray).toList == (⟨b.toArray⟩ : ByteArray).toList) w := fun a b w => run_equalIn_string w 9998 9 _ _ und9
  simp only [places, List.mem_cons, List.not_mem_nil, or_false, Prod.mk.injEq] at hp
  rcases hp with ⟨rfl, rfl⟩ | ⟨rfl, rfl⟩ | ⟨rfl, rfl⟩ | ⟨rfl, rfl⟩ | ⟨rfl, rfl⟩ | ⟨rfl, rfl⟩ | ⟨rfl, rfl⟩ | ⟨rfl, rfl⟩ | ⟨rfl, rfl⟩ | ⟨rfl, rfl⟩ | ⟨rfl, rfl⟩ | ⟨rfl, rfl⟩
  · exact ⟨_, _, _, rfl, rfl, one3, num _ _ _ _ und3, fun h => absurd h (by decide)⟩
  · refine ⟨_, _, _, rfl, rfl, one9, str _ _, fun _ h => ?_⟩
    have h3 := eq_of_beq h
    rw [ByteArray.toList_eq, ByteArray.toList_eq] at h3
    simpa using h3
  · exact ⟨_, _, _, rfl, rfl, one9, str _ _, fun h => absurd h (by decide)⟩
  · exact ⟨_, _, _, rfl, rfl, one9, str _ _, fun h => absurd h (by decide)⟩
  · exact ⟨_, _, _, rfl, rfl, one9, str _ _, fun h => absurd h (by decide)⟩
  · exact ⟨_, _, _, rfl, rfl, one9, str _ _, fun h => absurd h (by decide)⟩
  · exact ⟨_, _, _, rfl, rfl, one5, num _ _ _ _ und5, fun h => absurd h (by decide)⟩
  · exact ⟨_, _, _, rfl, rfl, one2, num _ _ _ _ und2, fun h => absurd h (by decide)⟩
  · exact ⟨_, _, _, rfl, rfl, one2, num _ _ _ _ und2, fun h => absurd h (by decide)⟩
  · exact ⟨_, _, _, rfl, rfl, one2, num _ _ _ _ und2, fun h => absurd h (by decide)⟩
  · exact ⟨_, _, _, rfl, rfl, one2, num _ _ _ _ und2, fun h => absurd h (by decide)⟩
  · exact ⟨_, _, _, rfl, rfl, one2, num _ _ _ _ und2, fun h => absurd h (by decide)⟩

theorem fields_eq (h1 h2 : Hd) : ∀ fs : List Field, fs.all (fun f => f.name != "_" && places.contains (f.offset, f.type)) = true → ∃ b, (∀ w, (Op.eqFields 9999 (hcells h1) (hcells h2) fs).run Try.prog w = .ok b w) ∧ (b = true → fs.any (fun f => f.offset == 1) = true → h1.nm = h2.nm)
  | [], _ => ⟨true, fun w => by simp [Op.eqFields], fun _ h => by simp at h⟩
  | f :: fs, h => by
    rw [List.all_cons, Bool.and_eq_true, Bool.and_eq_true] at h
    obtain ⟨⟨hn, hp⟩, hr⟩ := h
    have hn' : f.name ≠ "_" := by simpa using hn
    obtain ⟨b, hb, hbn⟩ := fields_eq h1 h2 fs hr
    obtain ⟨u, v, r, hu, hv, ht, hrun, hnm⟩ := place_eq h1 h2 f.offset f.type (by simpa using hp)
    refine ⟨r && b, fun w => ?_, fun h3 h4 => ?_⟩
    · unfold Op.eqFields
      simp only [hn', ne_eq, not_false_eq_true, if_true, Sem.run_bind, part_one ht hu, part_one ht hv, Result.andThen_ok, hrun]
      cases r
      · simp
      · simp [hb]
    · rw [Bool.and_eq_true] at h3
      rw [List.any_cons, Bool.or_eq_true] at h4
      rcases h4 with h4 | h4
      · exact hnm (by simpa using h4) h3.1
      · exact hbn h3.2 h4

theorem neq_op {a : Act} {oi : Oper} {x y : Operand} {ty : TypeId} (h1 h2 : Hd) (hop : oi.op = .binOp .neq 23 x y ty) (hx : a.eval x = .agg (hcells h1)) (hy : a.eval y = .agg (hcells h2)) : ∃ b, (∀ w, (execOp a.eval oi).run Try.prog w = .ok (.value (.bool b)) w) ∧ (b = false → h1.nm = h2.nm) := by
  obtain ⟨b, hb, hbn⟩ := fields_eq h1 h2 _ fields_ok
  refine ⟨!b, fun w => ?_, fun h => hbn (by simpa using h) has_name⟩
  have hrun : (binOp .neq 23 (.agg (hcells h1)) (.agg (hcells h2))).run Try.prog w = .ok (.bool (!b)) w := by
    rw [run_neq_struct, run_equalIn_agg w 9999 _ _ _ und23 held23, hb]
    rfl
  unfold execOp
  simp only [hop, hx, hy, Sem.run_bind, run_eqGuard_agg w _ _ _ _ _ _ guard23, Result.andThen_ok, hrun]
  rfl
end Go.Proofs.Ytfpfdnckibaldaa.H
