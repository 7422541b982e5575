/- Two entries compared. No condition. -/
import Derived.Test.YtfpfdnckibaldaaDoorEc
import Derived.Laws.StructEq
set_option linter.unusedSimpArgs false
set_option linter.unusedVariables false
namespace Go.Proofs.YtfpfdnckibaldaaDoor.Q
open Go.RowKit Go.Proofs.YtfpfdnckibaldaaDoor.M Go.Proofs.YtfpfdnckibaldaaDoor.D Go.Proofs.YtfpfdnckibaldaaDoor.E Go.Proofs.YtfpfdnckibaldaaDoor.B Go.Proofs.YtfpfdnckibaldaaDoor.K


theorem guard39 : Tryd.prog.eqGuardType Tryd.prog.depth 39 = false := by kernel_rfl
theorem held39 : Tryd.prog.stoodInHeld 39 = false := by kernel_rfl
theorem und39 : Tryd.prog.underlying 39 = some (.struct (Tryd.prog.fieldsOf 39)) := by kernel_rfl
theorem und3 : Tryd.prog.underlying 3 = some (.int .i64) := by kernel_rfl
theorem und2 : Tryd.prog.underlying 2 = some (.int .i64) := by kernel_rfl
def places : List (Nat × TypeId) := [(0, 9), (1, 9), (2, 3), (3, 3), (4, 2), (5, 2), (6, 2), (7, 2), (8, 9), (9, 9)]
theorem fields_ok : (Tryd.prog.fieldsOf 39).toList.all (fun f => f.name != "_" && places.contains (f.offset, f.type)) = true := by kernel_rfl

theorem part_one {ty : TypeId} {off : Nat} {cs : Array Value} {v : Value} (ht : OneTy Tryd.prog ty) (hv : cs[off]? = some v) (w : World) : (part ty cs off).run Tryd.prog w = .ok v w := by
  obtain ⟨d, hu, hd⟩ := ht.one
  have hagg : (isAgg ty).run Tryd.prog w = .ok false w := by
    unfold isAgg
    rw [Sem.run_bind, run_underlying hu w]
    cases d <;> simp_all
  simp [part, Sem.run_bind, hagg, hv]

theorem place_eq (nm lk un gn : ByteArray) (k md ui gi mt sz : Int) (off : Nat) (ty : TypeId) (hp : (off, ty) ∈ places) : ∃ u, (#[.string nm, .string lk, .int .i64 k, .int .i64 md, .int .i64 ui, .int .i64 gi, .int .i64 mt, .int .i64 sz, .string un, .string gn] : Array Value)[off]? = some u ∧ OneTy Tryd.prog ty ∧ (∀ w, (Op.equalIn 9999 ty u u).run Tryd.prog w = .ok true w) := by
  have num : ∀ (ty : TypeId) (a : Int), Tryd.prog.underlying ty = some (.int .i64) → ∀ w, (Op.equalIn 9999 ty (.int .i64 a) (.int .i64 a)).run Tryd.prog w = .ok true w := fun ty a hu w => by rw [run_equalIn_int w 9998 ty _ _ a a hu]; simp
  have str : ∀ (a : ByteArray) w, (Op.equalIn 9999 9 (.string a) (.string a)).run Tryd.prog w = .ok true w := fun a w => by rw [run_equalIn_string w 9998 9 _ _ und9]; simp
  simp only [places, List.mem_cons, List.not_mem_nil, or_false, Prod.mk.injEq] at hp
  rcases hp with ⟨rfl, rfl⟩ | ⟨rfl, rfl⟩ | ⟨rfl, rfl⟩ | ⟨rfl, rfl⟩ | ⟨rfl, rfl⟩ | ⟨rfl, rfl⟩ | ⟨rfl, rfl⟩ | ⟨rfl, rfl⟩ | ⟨rfl, rfl⟩ | ⟨rfl, rfl⟩
  · exact ⟨_, rfl, one9, str _⟩
  · exact ⟨_, rfl, one9, str _⟩
  · exact ⟨_, rfl, one3, num _ _ und3⟩
  · exact ⟨_, rfl, one3, num _ _ und3⟩
  · exact ⟨_, rfl, one2, num _ _ und2⟩
  · exact ⟨_, rfl, one2, num _ _ und2⟩
  · exact ⟨_, rfl, one2, num _ _ und2⟩
  · exact ⟨_, rfl, one2, num _ _ und2⟩
  · exact ⟨_, rfl, one9, str _⟩
  · exact ⟨_, rfl, one9, str _⟩

theorem fields_eq (nm lk un gn : ByteArray) (k md ui gi mt sz : Int) : ∀ fs : List Field, fs.all (fun f => f.name != "_" && places.contains (f.offset, f.type)) = true → ∀ w, (Op.eqFields 9999 #[.string nm, .string lk, .int .i64 k, .int .i64 md, .int .i64 ui, .int .i64 gi, .int .i64 mt, .int .i64 sz, .string un, .string gn] #[.string nm, .string lk, .int .i64 k, .int .i64 md, .int .i64 ui, .int .i64 gi, .int .i64 mt, .int .i64 sz, .string un, .string gn] fs).run Tryd.prog w = .ok true w
  | [], _ => fun w => by simp [Op.eqFields]
  | f :: fs, h => by
    rw [List.all_cons, Bool.and_eq_true, Bool.and_eq_true] at h
    obtain ⟨⟨hn, hp⟩, hr⟩ := h
    have hn' : f.name ≠ "_" := by simpa using hn
    have hb := fields_eq nm lk un gn k md ui gi mt sz fs hr
    obtain ⟨u, hu, ht, hrun⟩ := place_eq nm lk un gn k md ui gi mt sz f.offset f.type (by simpa using hp)
    intro w
    unfold Op.eqFields
    simp only [hn', ne_eq, not_false_eq_true, if_true, Sem.run_bind, part_one ht hu, Result.andThen_ok, hrun]
    simp [hb]

theorem eq_op {a : Act} {w : World} {ops : Array Oper} {Q : Exit → Act → World → Prop} {R : Act → World → Prop} {o : Oper} {x y : Operand} {ty : TypeId} {nm lk un gn : ByteArray} {k md ui gi mt sz : Int} (hop : o.op = .binOp .eql 39 x y ty) (hw : Region.wanted o (yielded ops a.tmps) = true) (hx : a.eval x = .agg #[.string nm, .string lk, .int .i64 k, .int .i64 md, .int .i64 ui, .int .i64 gi, .int .i64 mt, .int .i64 sz, .string un, .string gn]) (hy : a.eval y = .agg #[.string nm, .string lk, .int .i64 k, .int .i64 md, .int .i64 ui, .int .i64 gi, .int .i64 mt, .int .i64 sz, .string un, .string gn])
    (h : R (a.put o.dst (.bool true)) w) : WPK Tryd.prog ops Q R o a w :=
  wanted hw fun K hK => by
    have hrun : (binOp .eql 39 (.agg #[.string nm, .string lk, .int .i64 k, .int .i64 md, .int .i64 ui, .int .i64 gi, .int .i64 mt, .int .i64 sz, .string un, .string gn]) (.agg #[.string nm, .string lk, .int .i64 k, .int .i64 md, .int .i64 ui, .int .i64 gi, .int .i64 mt, .int .i64 sz, .string un, .string gn])).run Tryd.prog w = .ok (.bool true) w := by
      rw [run_eql_struct, run_equalIn_agg w 9999 _ _ _ und39 held39, fields_eq nm lk un gn k md ui gi mt sz _ fields_ok]
      rfl
    unfold Oper.wp execOp
    simp only [hop, hx, hy, Sem.run_bind, run_eqGuard_agg w _ _ _ _ _ _ guard39, Result.andThen_ok, hrun]
    exact hK _ _ h
end Go.Proofs.YtfpfdnckibaldaaDoor.Q
