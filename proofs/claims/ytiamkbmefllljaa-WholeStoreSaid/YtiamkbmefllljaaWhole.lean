/- Each block is somebody's, or free. No condition. -/
import Derived.Test.YtiamkbmefllljaaKeeps
import Derived.Test.YtiamkbmefllljaaOpen
import Derived.Test.YtiamkbmefllljaaMp
import Derived.Deep.LoopGhost
import Derived.Deep.CutBlock
import Derived.Deep.DeepCutAuto
import Derived.OpenShut
import Derived.Laws.IdiomArrays
set_option linter.unusedSimpArgs false
set_option linter.unusedVariables false
namespace Go.Proofs.Ytiamkbmefllljaa.Whole
open Go.RowKit Go.ChangeShapes Go.WideShapes Go.Proofs.Ytiamkbmefllljaa.M Go.Proofs.Ytiamkbmefllljaa.A Go.Proofs.Ytiamkbmefllljaa.L Go.Proofs.Ytiamkbmefllljaa.E

theorem sl44 : SlTy Try.prog 44 41 2 32 (.agg #[.slice none 0 0, .int .i64 0]) := ⟨by kernel_rfl, by kernel_rfl⟩
theorem cf24 : ∀ (vs : Array Value) (w : World), (callFunc 24 vs).run Try.prog w = .ok (.enter 24 vs) w := fun vs w => by kernel_rfl
/-- A content's cells. -/
def ctc (c : Ct) : List Value := [c.x, .int .i64 (c.b.length : Nat)]
theorem ctc_len (cs : List Ct) : ∀ c ∈ cs, (ctc c).length = 2 := fun _ _ => rfl

theorem came_cell {w0 : Base} {w : World} {fr l : List Blk} {a : Addr} {v : Value} (hM : Mem w0 w fr l) (h : w0.w.cell? a = some v) : w.cell? a = some v :=
  (hM.oldCell (cell_lt h)).trans h

theorem str_app (a b : List UInt8) : (ByteArray.mk a.toArray) ++ (ByteArray.mk b.toArray) = ByteArray.mk (a ++ b).toArray := by
  apply ByteArray.ext
  simp [ByteArray.data_append]

theorem run_add_str {a b : List UInt8} (hl : a.length + b.length ≤ 1000000) (w : World) : (binOp .add 9 (.string ⟨a.toArray⟩) (.string ⟨b.toArray⟩)).run Try.prog w = .ok (.string ⟨(a ++ b).toArray⟩) w := by
  rw [← str_app]
  have h1 : (ByteArray.mk a.toArray).size = a.length := rfl
  have h2 : (ByteArray.mk b.toArray).size = b.length := rfl
  go_simp
  omega

theorem run_add_op {a : Act} {oi : Oper} {x y : Operand} {bs t : List UInt8} {ty : TypeId} (hop : oi.op = .binOp .add 9 x y ty) (hx : a.eval x = .string ⟨bs.toArray⟩) (hy : a.eval y = .string ⟨t.toArray⟩) (hl : bs.length + t.length ≤ 1000000) (w : World) :
    (execOp a.eval oi).run Try.prog w = .ok (.value (.string ⟨(bs ++ t).toArray⟩)) w := by
  unfold execOp
  simp only [hop, hx, hy, Sem.run_bind, run_add_str hl, Result.andThen_ok]
  rfl

theorem cf22 : ∀ (vs : Array Value) (w : World), (callFunc 22 vs).run Try.prog w = .ok (.enter 22 vs) w := fun vs w => by kernel_rfl
theorem erase_perm {α : Type} {cs : List α} {i : Nat} (h : i < cs.length) : cs.Perm (cs[i] :: cs.eraseIdx i) := by
  rw [List.eraseIdx_eq_take_drop_succ]
  have e : cs = cs.take i ++ cs[i] :: cs.drop (i + 1) := by rw [← List.drop_eq_getElem_cons h, List.take_append_drop]
  exact (List.Perm.of_eq e).trans List.perm_middle
theorem set_perm {α : Type} {cs : List α} {i : Nat} (h : i < cs.length) (x : α) : (cs.set i x).Perm (x :: cs.eraseIdx i) := by
  have h1 := erase_perm (cs := cs.set i x) (i := i) (by rw [List.length_set]; exact h)
  rw [List.getElem_set_self, List.eraseIdx_set_eq] at h1
  exact h1
theorem und44 : Try.prog.underlying 44 = some (.slice 41) := by kernel_rfl
theorem und48 : Try.prog.underlying 48 = some (.map 3 3) := by kernel_rfl
theorem und3 : Try.prog.underlying 3 = some (.int .i64) := by kernel_rfl
theorem zero3 : zeroIs Try.prog 3 (.int .i64 0) := by unfold zeroIs; kernel_rfl
theorem has41 : ((Try.prog.info? 41).map (·.size)).isSome = true := by kernel_rfl
theorem size41 : (Try.prog.info? 41).map (·.size) = some 2 := by kernel_rfl
theorem row45 : RowTy Try.prog 45 3 := .of (by kernel_rfl)
theorem zero41 : zeroIs Try.prog 41 (.agg #[.slice none 0 0, .int .i64 0]) := rfl
theorem zero45 : zeroIs Try.prog 45 (.agg #[.int .i64 0, .int .i64 0, .int .i64 0]) := by unfold zeroIs; kernel_rfl

/-- Something to do. -/
structure Op3 where
  k : Int
  p : Int
  n : Int

/-- .. as it lies in memory. -/
def OpRec (W : World) : Op3 → List Value → Prop := fun o cs => cs = [.int .i64 o.k, .int .i64 o.p, .int .i64 o.n]

theorem size3_ {cs : List Value} (h : cs.length = 3) : ∃ c0 c1 c2, cs = [c0, c1, c2] := by
  match cs, h with
  | [c0, c1, c2], _ => exact ⟨_, _, _, rfl⟩

theorem opened_ops {H : Type} {enc : TypeId × Value → H} {W : World} {base : Nat} {v : Value} {d : DataW H} {p : List MemPlace} (hval : Value.okWide Try.prog W .any base 38 v) (h : DataW.Trod enc Try.prog W 0 (fun _ => true) true 38 v d p) :
    ∃ l, Recs W 3 (OpRec W) v l := by
  obtain ⟨a, len, cap, rfl⟩ := okWide_slice Try.underlying38 hval
  obtain ⟨fuel, hf⟩ := h
  have hf' : DataW.trod enc Try.prog W 0 (fun _ => true) true fuel 38 [.slice a len cap] = some (d, p) := hf
  obtain ⟨v', l, hv, hr⟩ := open_recs (α := Op3) (k := 3) (E := OpRec W) Try.underlying38 (by kernel_rfl) hf' (fun n cs d hd hl => by
    obtain ⟨c0, c1, c2, rfl⟩ := size3_ hl
    obtain ⟨y0, y1, y2, m, _, h0, h1, h2⟩ := trod_array3 Try.underlying45 (by kernel_rfl) hd
    obtain ⟨z0, q0, _, _⟩ := DataW.trod_int Try.underlying3 h0
    obtain ⟨z1, q1, _, _⟩ := DataW.trod_int Try.underlying3 h1
    obtain ⟨z2, q2, _, _⟩ := DataW.trod_int Try.underlying3 h2
    simp at q0 q1 q2
    subst q0 q1 q2
    exact ⟨⟨z0, z1, z2⟩, rfl⟩)
  simp only [List.cons.injEq, and_true] at hv
  subst hv
  exact ⟨l, hr⟩

theorem op_get {w : World} {b : Option Addr} {c : Nat} {l : List Op3} (h : Recs w 3 (OpRec w) (.slice b l.length c) l) {j : Nat} (hj : j < l.length) :
    ∃ a, b = some a ∧ (∀ i u, [Value.int .i64 l[j].k, .int .i64 l[j].p, .int .i64 l[j].n][i]? = some u → w.cell? ((a.add (j * 3)).add i) = some u) := by
  obtain ⟨a, cs, ha, h1, h2, rfl⟩ := h.get hj
  exact ⟨a, ha, h2⟩

theorem ctc_one {B : Base} {w : World} {fr l : List Blk} {cs : List Ct} (hM : Mem B w fr l) (hI : In B cs) : allOne (cs.flatMap ctc) = true := by
  rw [allOne_iff]
  intro u hu
  obtain ⟨c, hc, hu⟩ := List.mem_flatMap.1 hu
  obtain ⟨b, k, hx⟩ := (hI c hc _ _ _ hM).len
  unfold ctc at hu
  rw [hx] at hu
  simp only [List.mem_cons, List.not_mem_nil, or_false] at hu
  rcases hu with rfl | rfl <;> rfl

/-! ## How often each block stands in contents, as a map -/
/-- The entries E say how often: a block that stands nowhere has none. -/
structure Cn_ (E : List (Int × Value)) (f : Nat → Nat) : Prop where
  ent : ∀ e ∈ E, ∃ id : Nat, e = ((id : Int), Value.int .i64 (f id : Nat)) ∧ 0 < f id
  has : ∀ id, 0 < f id → ((id : Int), Value.int .i64 (f id : Nat)) ∈ E

theorem Cn_.nil {f : Nat → Nat} (h : ∀ id, f id = 0) : Cn_ [] f := ⟨fun e he => by simp at he, fun id hid => by rw [h id] at hid; omega⟩
theorem Cn_.congr {E : List (Int × Value)} {f g : Nat → Nat} (h : Cn_ E f) (he : ∀ id, g id = f id) : Cn_ E g := by
  have : g = f := funext he
  subst this
  exact h
theorem Cn_.no {E : List (Int × Value)} {f : Nat → Nat} (h : Cn_ E f) {id : Nat} (hz : f id = 0) : ∀ e ∈ E, e.1 ≠ (id : Int) := by
  intro e he hk
  obtain ⟨i, rfl, hi⟩ := h.ent e he
  have : i = id := Int.ofNat_inj.1 hk
  subst this
  omega
theorem Cn_.new {E : List (Int × Value)} {f g : Nat → Nat} (h : Cn_ E f) {id : Nat} (hz : f id = 0) (hg : ∀ i, g i = f i + if i = id then 1 else 0) : Cn_ (E ++ [((id : Int), Value.int .i64 1)]) g := by
  refine ⟨fun e he => ?_, fun i hi => ?_⟩
  · rcases List.mem_append.1 he with he | he
    · obtain ⟨i, rfl, hi⟩ := h.ent e he
      have hne : i ≠ id := fun e => by subst e; omega
      exact ⟨i, by rw [hg, if_neg hne, Nat.add_zero], by rw [hg]; omega⟩
    · rw [List.mem_singleton] at he
      exact ⟨id, by rw [hg, if_pos rfl, hz]; exact he, by rw [hg, if_pos rfl]; omega⟩
  · by_cases e : i = id
    · subst e
      rw [hg, if_pos rfl, hz]
      exact List.mem_append.2 (.inr (List.mem_singleton.2 rfl))
    · rw [hg, if_neg e, Nat.add_zero] at hi ⊢
      exact List.mem_append.2 (.inl (h.has i hi))
theorem Cn_.old {E : List (Int × Value)} {f g : Nat → Nat} (h : Cn_ E f) (hk : (E.map Prod.fst).Nodup) {id q : Nat} {u v : Value} (hq : E[q]? = some ((id : Int), u)) (hg : ∀ i, g i = f i + if i = id then 1 else 0) (hv : v = .int .i64 (g id : Nat)) : Cn_ (E.set q ((id : Int), v)) g := by
  have hql : q < E.length := (List.getElem?_eq_some_iff.1 hq).1
  have hat : ∀ j (e : Int × Value), E[j]? = some e → e.1 = (id : Int) → j = q := fun j e he h1 => by
    have hjl : j < (E.map Prod.fst).length := by rw [List.length_map]; exact (List.getElem?_eq_some_iff.1 he).1
    refine (List.getElem?_inj hjl hk).1 ?_
    rw [List.getElem?_map, List.getElem?_map, he, hq, Option.map_some, Option.map_some, h1]
  refine ⟨fun e he => ?_, fun i hi => ?_⟩
  · obtain ⟨j, hj⟩ := List.mem_iff_getElem?.1 he
    rw [List.getElem?_set] at hj
    by_cases e1 : q = j
    · rw [if_pos e1, if_pos hql] at hj
      exact ⟨id, by rw [← Option.some.inj hj, hv], by rw [hg, if_pos rfl]; omega⟩
    · rw [if_neg e1] at hj
      obtain ⟨i, rfl, hi⟩ := h.ent e (List.mem_iff_getElem?.2 ⟨j, hj⟩)
      have hne : i ≠ id := fun e2 => e1 (hat j _ hj (by rw [e2])).symm
      exact ⟨i, by rw [hg, if_neg hne, Nat.add_zero], by rw [hg]; omega⟩
  · by_cases e : i = id
    · subst e
      refine List.mem_iff_getElem?.2 ⟨q, ?_⟩
      rw [List.getElem?_set_self hql, hv]
    · rw [hg, if_neg e, Nat.add_zero] at hi ⊢
      obtain ⟨j, hj⟩ := List.mem_iff_getElem?.1 (h.has i hi)
      refine List.mem_iff_getElem?.2 ⟨j, ?_⟩
      have hne : q ≠ j := fun e2 => by
        subst e2
        rw [hq] at hj
        have := congrArg (fun o : Option (Int × Value) => o.map Prod.fst) hj
        simp only [Option.map_some, Option.some.injEq] at this
        exact e (Int.ofNat_inj.1 this).symm
      rw [List.getElem?_set_ne hne, hj]

/-- The blocks that stand somewhere. -/
def held_ (H : Nat → Int) (n : Nat) : List Nat := (List.range n).filter fun i => 0 < H i
theorem held_len (H : Nat → Int) (n : Nat) : (held_ H n).length = cnt H n := by
  induction n with
  | zero => rfl
  | succ n ih =>
    unfold held_ at ih ⊢
    rw [List.range_succ, List.filter_append, List.length_append, ih]
    show _ = cnt H n + if 0 < H n then 1 else 0
    by_cases h : 0 < H n
    · simp [h]
    · simp [h]
/-- As many entries as there are blocks that stand somewhere. -/
theorem Cn_.len {E : List (Int × Value)} {f : Nat → Nat} {H : Nat → Int} {n : Nat} (h : Cn_ E f) (hk : (E.map Prod.fst).Nodup) (hf : ∀ id, H id = (f id : Nat)) (hn : ∀ id, 0 < f id → id < n) : E.length = cnt H n := by
  rw [← held_len H n]
  have hnat : ∃ l : List Nat, E.map Prod.fst = l.map (fun i : Nat => (i : Int)) ∧ ∀ i ∈ l, 0 < f i := by
    have h0 := h.ent
    clear h hk
    induction E with
    | nil => exact ⟨[], rfl, fun i hi => by simp at hi⟩
    | cons e E ih =>
      obtain ⟨l, h1, h2⟩ := ih (fun e he => h0 e (List.mem_cons_of_mem _ he))
      obtain ⟨i, he, hi⟩ := h0 e (List.mem_cons_self ..)
      refine ⟨i :: l, by rw [List.map_cons, List.map_cons, h1, he], fun k hk => ?_⟩
      rcases List.mem_cons.1 hk with rfl | hk
      · exact hi
      · exact h2 k hk
  obtain ⟨l, h1, h2⟩ := hnat
  have hlen : E.length = l.length := by have := congrArg List.length h1; simpa using this
  rw [h1] at hk
  have hln : l.Nodup := List.Pairwise.of_map (fun i : Nat => (i : Int)) (fun a b hab e => hab (by rw [e])) hk
  rw [hlen]
  refine Nat.le_antisymm (nodup_len _ _ hln (fun i hi => ?_)) (nodup_len _ _ (List.Pairwise.filter _ List.nodup_range) (fun i hi => ?_))
  · have hp := h2 i hi
    refine List.mem_filter.2 ⟨List.mem_range.2 (hn i hp), ?_⟩
    rw [hf i]
    simp
    exact hp
  · obtain ⟨hi1, hi2⟩ := List.mem_filter.1 hi
    have hp : 0 < f i := by have := hf i; simp at hi2; omega
    have h9 : (i : Int) ∈ E.map Prod.fst := List.mem_map.2 ⟨_, h.has i hp, rfl⟩
    rw [h1] at h9
    obtain ⟨k, hk1, hk2⟩ := List.mem_map.1 h9
    have : k = i := Int.ofNat_inj.1 hk2
    exact this ▸ hk1

theorem tot_take (cs : List Ct) {i : Nat} (h : i < cs.length) (id : Nat) : tot (cs.take (i + 1)) id = tot (cs.take i) id + cs[i].L.count id := by
  rw [List.take_add_one, List.getElem?_eq_getElem h, Option.toList_some]
  unfold tot
  rw [List.map_append, List.sum_append]
  simp
theorem count_take {L : List Nat} {q : Nat} (h : q < L.length) (id : Nat) : (L.take (q + 1)).count id = (L.take q).count id + if id = L[q] then 1 else 0 := by
  rw [List.take_add_one, List.getElem?_eq_getElem h, Option.toList_some, List.count_append]
  congr 1
  rw [List.count_singleton]
  by_cases e : id = L[q]
  · rw [if_pos e, e]; simp
  · rw [if_neg e]
    have : (L[q] == id) = false := beq_eq_false_iff_ne.2 (fun e2 => e e2.symm)
    simp [this]
theorem Cs.lt {p : Ptr} {s : St} {cs : List Ct} (h : Cs p s cs) {id : Nat} (hp : 0 < tot cs id) : id < p.n := by
  by_cases hl : ∃ c ∈ cs, id ∈ c.L
  · obtain ⟨c, hc, hid⟩ := hl
    exact h.mem c hc id hid
  · exfalso
    have : ∀ l : List Ct, (∀ c ∈ l, id ∉ c.L) → tot l id = 0 := by
      intro l hl
      induction l with
      | nil => rfl
      | cons c l ih =>
        rw [tot_cons, ih (fun d hd => hl d (List.mem_cons_of_mem _ hd)), List.count_eq_zero_of_not_mem (hl c (List.mem_cons_self ..))]
    rw [this cs (fun c hc hid => hl ⟨c, hc, hid⟩)] at hp
    omega

section
variable {P : Program} {a : Act}
/-- The greater of nought and a number, the lesser of a number and 300. -/
theorem run_mx0 {c x : Operand} {pk v : Int} {oi : Oper} (w : World) (hop : oi.op = .call { callee := .builtin .max, args := #[c, x], argTypes := #[3, 3] }) (hc : a.eval c = .int .i64 0) (hx : a.eval x = .int .i64 pk) (hv : v = if 0 < pk then pk else 0) :
    (execOp a.eval oi).run P w = .ok (.value (.int .i64 v)) w := by
  have hrun : (Builtin.max_ #[3, 3] oi.type #[.int .i64 0, .int .i64 pk]).run P w = .ok (.int .i64 v) w := by
    rw [hv]
    by_cases hp : 0 < pk
    · rw [if_pos hp]; simp [Builtin.max_, Builtin.max2, hp]
    · rw [if_neg hp]; simp [Builtin.max_, Builtin.max2, hp]
  simp only [execOp, hop, resolve, Sem.run_bind, Sem.run_pure, Result.andThen_ok, invoke, builtin, List.map_toArray, List.map_cons, List.map_nil, hc, hx, hrun]
theorem run_mn {c x : Operand} {pk v : Int} {oi : Oper} (w : World) (hop : oi.op = .call { callee := .builtin .min, args := #[x, c], argTypes := #[3, 3] }) (hc : a.eval c = .int .i64 300) (hx : a.eval x = .int .i64 pk) (hv : v = if 300 < pk then 300 else pk) :
    (execOp a.eval oi).run P w = .ok (.value (.int .i64 v)) w := by
  have hrun : (Builtin.min_ #[3, 3] oi.type #[.int .i64 pk, .int .i64 300]).run P w = .ok (.int .i64 v) w := by
    rw [hv]
    by_cases hp : 300 < pk
    · rw [if_pos hp]; simp [Builtin.min_, Builtin.min2, hp]
    · rw [if_neg hp]; simp [Builtin.min_, Builtin.min2, hp]
  simp only [execOp, hop, resolve, Sem.run_bind, Sem.run_pure, Result.andThen_ok, invoke, builtin, List.map_toArray, List.map_cons, List.map_nil, hc, hx, hrun]
end

set_option maxRecDepth 100000 in
set_option maxHeartbeats 40000000 in
theorem whole_ok (w : World) (n0 : Nat) (y : Value) (ops : List Op3) (hO : Recs w 3 (OpRec w) y ops) (hn0 : n0 ≤ 100) (hz : ops.length ≤ 60) : Calls Try.prog 4 #[.int .i64 n0, y] w fun e w' => e = .returned (.bool true) ∧ Below w.heap.size w w' := by
  have hM := Mem.start w
  go_enter Try.func4, Try.ntmps4
  go_wp2_with (first
    | ((with_reducible refine wpl ?_); apply al_box (hM := hM); rfl; (first | exact want_none rfl | exact want_some rfl rfl rfl rfl); (first | (focus (go_simp; done)) | (focus (go_simp; rfl))); intro gb w1 hM1; clear hM; dsimp only [Value.cells] at hM1; have hM := hM1; clear hM1; simp only [Act.put, List.setIfInBounds_toArray, List.set_cons_zero, List.set_cons_succ])
    | ((with_reducible refine wpl ?_); apply al_zero (hM := hM); rfl; (first | exact want_none rfl | exact want_some rfl rfl rfl rfl); (first | exact zero41 | exact zero45); intro gz w1 hM1; clear hM; dsimp only [Value.cells] at hM1; have hM := hM1; clear hM1; simp only [Act.put, List.setIfInBounds_toArray, List.set_cons_zero, List.set_cons_succ])
    | ((with_reducible refine wpl ?_); apply ld_row (hM := hM); rfl; (first | exact want_none rfl | exact want_some rfl rfl rfl rfl); rfl; (first | exact .head _ _ | exact .tail (.head _ _) | exact .tail (.tail (.head _ _)) | exact .tail (.tail (.tail (.head _ _))) | exact .tail (.tail (.tail (.tail (.head _ _)))) | exact .tail (.tail (.tail (.tail (.tail (.head _ _)))))); (first | exact row41 | exact row45); simp only [Act.put, List.setIfInBounds_toArray, List.set_cons_zero, List.set_cons_succ])
    | ((with_reducible refine wpl ?_); apply st_row (hM := hM); rfl; (first | exact want_none rfl | exact want_some rfl rfl rfl rfl); rfl; (first | (focus (go_simp; done)) | (focus (go_simp; rfl))); (first | exact .head _ _ | exact .tail (.head _ _) | exact .tail (.tail (.head _ _)) | exact .tail (.tail (.tail (.head _ _))) | exact .tail (.tail (.tail (.tail (.head _ _)))) | exact .tail (.tail (.tail (.tail (.tail (.head _ _)))))); rfl; rfl; (first | exact row41 | exact row45); intro w1 hM1; clear hM; (try simp only [List.setIfInBounds_toArray, List.set_cons_zero, List.set_cons_succ] at hM1); (try rw [tab_setInt] at hM1);  have hM := hM1; clear hM1; simp only [Act.put, List.setIfInBounds_toArray, List.set_cons_zero, List.set_cons_succ])
    | ((with_reducible refine wpl ?_); apply ld_one (hM := hM); rfl; (first | exact want_none rfl | exact want_some rfl rfl rfl rfl); rfl; (first | exact .head _ _ | exact .tail (.head _ _) | exact .tail (.tail (.head _ _)) | exact .tail (.tail (.tail (.head _ _))) | exact .tail (.tail (.tail (.tail (.head _ _)))) | exact .tail (.tail (.tail (.tail (.tail (.head _ _)))))); (first | (focus (simp only [List.getElem?_toArray, List.getElem?_cons_zero, List.getElem?_cons_succ]; rfl)) | exact tab_get (by omega) | rfl); (first | exact one3 | exact one39); simp only [Act.put, List.setIfInBounds_toArray, List.set_cons_zero, List.set_cons_succ])
    | ((with_reducible refine wpl ?_); apply st_cell (hM := hM); rfl; (first | exact want_none rfl | exact want_some rfl rfl rfl rfl); rfl; (first | (focus (go_simp; done)) | (focus (go_simp; rfl))); (first | exact .head _ _ | exact .tail (.head _ _) | exact .tail (.tail (.head _ _)) | exact .tail (.tail (.tail (.head _ _))) | exact .tail (.tail (.tail (.tail (.head _ _)))) | exact .tail (.tail (.tail (.tail (.tail (.head _ _)))))); (first | (focus (simp; done)) | (focus (rw [tab_size]; omega))); rfl; (first | exact one3 | exact one39); intro w1 hM1; clear hM; (try simp only [List.setIfInBounds_toArray, List.set_cons_zero, List.set_cons_succ] at hM1); (try rw [tab_setInt] at hM1);  have hM := hM1; clear hM1; simp only [Act.put, List.setIfInBounds_toArray, List.set_cons_zero, List.set_cons_succ]))
  refine (new hM 2 (by omega) rfl).mono ?_
  rintro e w3 ⟨p0, s0, rfl, hn00, ok0, hm00, hH00, hM1⟩
  clear hM
  have hM := hM1
  clear hM1
  have hc00 := (Cs.start ok0 hH00).begin_
  replace hm00 := hid_ hm00
  replace hn00 := hid_ hn00
  clear hH00
  go_wp2_with (first
    | ((with_reducible refine wpl ?_); apply al_one (hM := hM) (ht := sl22); rfl; (first | exact want_none rfl | exact want_some rfl rfl rfl rfl); (first | (focus (go_simp; done)) | (focus (go_simp; rfl))); rfl; intro gb w1 hM1; clear hM; have hM := hM1; clear hM1; simp only [Act.put, List.setIfInBounds_toArray, List.set_cons_zero, List.set_cons_succ])
    | ((with_reducible refine wpl ?_); apply cv_same (hM := hM); rfl; (first | exact want_none rfl | exact want_some rfl rfl rfl rfl); exact und22; exact und5; rfl; (first | exact .head _ _ | exact .tail (.head _ _) | exact .tail (.tail (.head _ _)) | exact .tail (.tail (.tail (.head _ _))) | exact .tail (.tail (.tail (.tail (.head _ _)))) | exact .tail (.tail (.tail (.tail (.tail (.head _ _)))))); intro w1 hM1; clear hM; have hM := hM1; clear hM1; simp only [Act.put, List.setIfInBounds_toArray, List.set_cons_zero, List.set_cons_succ])
    | ((with_reducible refine wpl ?_); apply al_box (hM := hM); rfl; (first | exact want_none rfl | exact want_some rfl rfl rfl rfl); (first | (focus (go_simp; done)) | (focus (go_simp; rfl))); intro gb w1 hM1; clear hM; dsimp only [Value.cells] at hM1; have hM := hM1; clear hM1; simp only [Act.put, List.setIfInBounds_toArray, List.set_cons_zero, List.set_cons_succ])
    | ((with_reducible refine wpl ?_); apply al_zero (hM := hM); rfl; (first | exact want_none rfl | exact want_some rfl rfl rfl rfl); (first | exact zero41 | exact zero45); intro gz w1 hM1; clear hM; dsimp only [Value.cells] at hM1; have hM := hM1; clear hM1; simp only [Act.put, List.setIfInBounds_toArray, List.set_cons_zero, List.set_cons_succ])
    | ((with_reducible refine wpl ?_); apply ld_row (hM := hM); rfl; (first | exact want_none rfl | exact want_some rfl rfl rfl rfl); rfl; (first | exact .head _ _ | exact .tail (.head _ _) | exact .tail (.tail (.head _ _)) | exact .tail (.tail (.tail (.head _ _))) | exact .tail (.tail (.tail (.tail (.head _ _)))) | exact .tail (.tail (.tail (.tail (.tail (.head _ _)))))); (first | exact row41 | exact row45); simp only [Act.put, List.setIfInBounds_toArray, List.set_cons_zero, List.set_cons_succ])
    | ((with_reducible refine wpl ?_); apply st_row (hM := hM); rfl; (first | exact want_none rfl | exact want_some rfl rfl rfl rfl); rfl; (first | (focus (go_simp; done)) | (focus (go_simp; rfl))); (first | exact .head _ _ | exact .tail (.head _ _) | exact .tail (.tail (.head _ _)) | exact .tail (.tail (.tail (.head _ _))) | exact .tail (.tail (.tail (.tail (.head _ _)))) | exact .tail (.tail (.tail (.tail (.tail (.head _ _)))))); rfl; rfl; (first | exact row41 | exact row45); intro w1 hM1; clear hM; (try simp only [List.setIfInBounds_toArray, List.set_cons_zero, List.set_cons_succ] at hM1); (try rw [tab_setInt] at hM1);  have hM := hM1; clear hM1; simp only [Act.put, List.setIfInBounds_toArray, List.set_cons_zero, List.set_cons_succ])
    | ((with_reducible refine wpl ?_); apply ld_one (hM := hM); rfl; (first | exact want_none rfl | exact want_some rfl rfl rfl rfl); rfl; (first | exact .head _ _ | exact .tail (.head _ _) | exact .tail (.tail (.head _ _)) | exact .tail (.tail (.tail (.head _ _))) | exact .tail (.tail (.tail (.tail (.head _ _)))) | exact .tail (.tail (.tail (.tail (.tail (.head _ _)))))); (first | (focus (simp only [List.getElem?_toArray, List.getElem?_cons_zero, List.getElem?_cons_succ]; rfl)) | exact tab_get (by omega) | rfl); (first | exact one3 | exact one39); simp only [Act.put, List.setIfInBounds_toArray, List.set_cons_zero, List.set_cons_succ])
    | ((with_reducible refine wpl ?_); apply st_cell (hM := hM); rfl; (first | exact want_none rfl | exact want_some rfl rfl rfl rfl); rfl; (first | (focus (go_simp; done)) | (focus (go_simp; rfl))); (first | exact .head _ _ | exact .tail (.head _ _) | exact .tail (.tail (.head _ _)) | exact .tail (.tail (.tail (.head _ _))) | exact .tail (.tail (.tail (.tail (.head _ _)))) | exact .tail (.tail (.tail (.tail (.tail (.head _ _)))))); (first | (focus (simp; done)) | (focus (rw [tab_size]; omega))); rfl; (first | exact one3 | exact one39); intro w1 hM1; clear hM; (try simp only [List.setIfInBounds_toArray, List.set_cons_zero, List.set_cons_succ] at hM1); (try rw [tab_setInt] at hM1);  have hM := hM1; clear hM1; simp only [Act.put, List.setIfInBounds_toArray, List.set_cons_zero, List.set_cons_succ]))
  obtain ⟨B_hb1, hL_hb1, hM1, hb1⟩ := parkedB hM [120] rfl (Nat.le_refl _) (fun j hj => by match j, hj with | 0, _ => rfl)
  clear hM
  have hM := hM1
  clear hM1
  refine (cappend (c := none_) (b' := [120]) (v' := 1) hM hc00 ((In.nil _).cons (IdsAt.nil _)) hb1 (by decide) (by rw [hm00.out]; simp [more, mo, nd, none_]) rfl rfl rfl).mono ?_
  rintro e w3 ⟨s1, a1, m1, k1, L1, B1, rfl, hl1, hM1, hc1, hI1, hf1, ho1⟩
  clear hM
  have hM := hM1
  clear hM1
  clear hf1 ho1
  have hlen1 : L1.length = 1 := by have := hc1.len _ (List.mem_cons_self ..); simpa [nd] using this
  obtain ⟨i1, rfl⟩ : ∃ i, L1 = [i] := List.length_eq_one_iff.1 hlen1
  clear hlen1
  have hi1 : i1 < p0.n := hc1.mem _ (List.mem_cons_self ..) i1 (List.mem_singleton.2 rfl)
  have hH1 : Hid (s1.H i1 = 1) := hid_ (by rw [hc1.H]; simp [tot])
  have hI1' : IdsAt B1 (.slice a1 m1 k1) [i1] := hI1 _ (List.mem_cons_self ..)
  obtain ⟨ax, kx, hxx⟩ := (hI1' _ _ _ hM).len
  simp only [Value.slice.injEq, List.length_singleton] at hxx
  obtain ⟨rfl, rfl, rfl⟩ := hxx
  obtain ⟨a0, rfl, hcell1⟩ := Ints.cell (show Ints _ (.slice a1 [i1].length _) [i1] from hI1' _ _ _ hM) (i := 0) (by simp)
  clear hcell1
  obtain ⟨yb, yc, rfl⟩ := hO.len
  have d9 : decide ((n0 : Int) < 0) = false := decide_eq_false (by omega)
  have d8 : decide ((n0 : Int) > 100) = false := decide_eq_false (by omega)
  have d7 : decide ((ops.length : Int) > 60) = false := decide_eq_false (by omega)
  go_wp2_with (first
    | ((with_reducible refine wpl ?_); apply ld_ids (hM := hM) (hI := hI1') (i := 0); rfl; (first | exact want_none rfl | exact want_some rfl rfl rfl rfl); (first | rfl | (focus (go_simp; done))); rfl; exact one3; simp only [Act.put, List.setIfInBounds_toArray, List.set_cons_zero, List.set_cons_succ])
    | ((with_reducible refine wpl ?_); apply al_box (hM := hM); rfl; (first | exact want_none rfl | exact want_some rfl rfl rfl rfl); (first | (focus (go_simp; done)) | (focus (go_simp; rfl))); intro gb w1 hM1; clear hM; dsimp only [Value.cells] at hM1; have hM := hM1; clear hM1; simp only [Act.put, List.setIfInBounds_toArray, List.set_cons_zero, List.set_cons_succ])
    | ((with_reducible refine wpl ?_); apply al_zero (hM := hM); rfl; (first | exact want_none rfl | exact want_some rfl rfl rfl rfl); (first | exact zero41 | exact zero45); intro gz w1 hM1; clear hM; dsimp only [Value.cells] at hM1; have hM := hM1; clear hM1; simp only [Act.put, List.setIfInBounds_toArray, List.set_cons_zero, List.set_cons_succ])
    | ((with_reducible refine wpl ?_); apply ld_row (hM := hM); rfl; (first | exact want_none rfl | exact want_some rfl rfl rfl rfl); rfl; (first | exact .head _ _ | exact .tail (.head _ _) | exact .tail (.tail (.head _ _)) | exact .tail (.tail (.tail (.head _ _))) | exact .tail (.tail (.tail (.tail (.head _ _)))) | exact .tail (.tail (.tail (.tail (.tail (.head _ _)))))); (first | exact row41 | exact row45); simp only [Act.put, List.setIfInBounds_toArray, List.set_cons_zero, List.set_cons_succ])
    | ((with_reducible refine wpl ?_); apply st_row (hM := hM); rfl; (first | exact want_none rfl | exact want_some rfl rfl rfl rfl); rfl; (first | (focus (go_simp; done)) | (focus (go_simp; rfl))); (first | exact .head _ _ | exact .tail (.head _ _) | exact .tail (.tail (.head _ _)) | exact .tail (.tail (.tail (.head _ _))) | exact .tail (.tail (.tail (.tail (.head _ _)))) | exact .tail (.tail (.tail (.tail (.tail (.head _ _)))))); rfl; rfl; (first | exact row41 | exact row45); intro w1 hM1; clear hM; (try simp only [List.setIfInBounds_toArray, List.set_cons_zero, List.set_cons_succ] at hM1); (try rw [tab_setInt] at hM1);  have hM := hM1; clear hM1; simp only [Act.put, List.setIfInBounds_toArray, List.set_cons_zero, List.set_cons_succ])
    | ((with_reducible refine wpl ?_); apply ld_one (hM := hM); rfl; (first | exact want_none rfl | exact want_some rfl rfl rfl rfl); rfl; (first | exact .head _ _ | exact .tail (.head _ _) | exact .tail (.tail (.head _ _)) | exact .tail (.tail (.tail (.head _ _))) | exact .tail (.tail (.tail (.tail (.head _ _)))) | exact .tail (.tail (.tail (.tail (.tail (.head _ _)))))); (first | (focus (simp only [List.getElem?_toArray, List.getElem?_cons_zero, List.getElem?_cons_succ]; rfl)) | exact tab_get (by omega) | rfl); (first | exact one3 | exact one39); simp only [Act.put, List.setIfInBounds_toArray, List.set_cons_zero, List.set_cons_succ])
    | ((with_reducible refine wpl ?_); apply st_cell (hM := hM); rfl; (first | exact want_none rfl | exact want_some rfl rfl rfl rfl); rfl; (first | (focus (go_simp; done)) | (focus (go_simp; rfl))); (first | exact .head _ _ | exact .tail (.head _ _) | exact .tail (.tail (.head _ _)) | exact .tail (.tail (.tail (.head _ _))) | exact .tail (.tail (.tail (.tail (.head _ _)))) | exact .tail (.tail (.tail (.tail (.tail (.head _ _)))))); (first | (focus (simp; done)) | (focus (rw [tab_size]; omega))); rfl; (first | exact one3 | exact one39); intro w1 hM1; clear hM; (try simp only [List.setIfInBounds_toArray, List.set_cons_zero, List.set_cons_succ] at hM1); (try rw [tab_setInt] at hM1);  have hM := hM1; clear hM1; simp only [Act.put, List.setIfInBounds_toArray, List.set_cons_zero, List.set_cons_succ]))
  refine (holds hM hc1.ok i1 hi1 1 hH1.out).mono ?_
  rintro e w3 ⟨rfl, hM1⟩
  clear hM
  have hM := hM1
  clear hM1
  go_wp2_with (first
    | ((with_reducible refine wpl ?_); apply al_box (hM := hM); rfl; (first | exact want_none rfl | exact want_some rfl rfl rfl rfl); (first | (focus (go_simp; done)) | (focus (go_simp; rfl))); intro gb w1 hM1; clear hM; dsimp only [Value.cells] at hM1; have hM := hM1; clear hM1; simp only [Act.put, List.setIfInBounds_toArray, List.set_cons_zero, List.set_cons_succ])
    | ((with_reducible refine wpl ?_); apply al_zero (hM := hM); rfl; (first | exact want_none rfl | exact want_some rfl rfl rfl rfl); (first | exact zero41 | exact zero45); intro gz w1 hM1; clear hM; dsimp only [Value.cells] at hM1; have hM := hM1; clear hM1; simp only [Act.put, List.setIfInBounds_toArray, List.set_cons_zero, List.set_cons_succ])
    | ((with_reducible refine wpl ?_); apply ld_row (hM := hM); rfl; (first | exact want_none rfl | exact want_some rfl rfl rfl rfl); rfl; (first | exact .head _ _ | exact .tail (.head _ _) | exact .tail (.tail (.head _ _)) | exact .tail (.tail (.tail (.head _ _))) | exact .tail (.tail (.tail (.tail (.head _ _)))) | exact .tail (.tail (.tail (.tail (.tail (.head _ _)))))); (first | exact row41 | exact row45); simp only [Act.put, List.setIfInBounds_toArray, List.set_cons_zero, List.set_cons_succ])
    | ((with_reducible refine wpl ?_); apply st_row (hM := hM); rfl; (first | exact want_none rfl | exact want_some rfl rfl rfl rfl); rfl; (first | (focus (go_simp; done)) | (focus (go_simp; rfl))); (first | exact .head _ _ | exact .tail (.head _ _) | exact .tail (.tail (.head _ _)) | exact .tail (.tail (.tail (.head _ _))) | exact .tail (.tail (.tail (.tail (.head _ _)))) | exact .tail (.tail (.tail (.tail (.tail (.head _ _)))))); rfl; rfl; (first | exact row41 | exact row45); intro w1 hM1; clear hM; (try simp only [List.setIfInBounds_toArray, List.set_cons_zero, List.set_cons_succ] at hM1); (try rw [tab_setInt] at hM1);  have hM := hM1; clear hM1; simp only [Act.put, List.setIfInBounds_toArray, List.set_cons_zero, List.set_cons_succ])
    | ((with_reducible refine wpl ?_); apply ld_one (hM := hM); rfl; (first | exact want_none rfl | exact want_some rfl rfl rfl rfl); rfl; (first | exact .head _ _ | exact .tail (.head _ _) | exact .tail (.tail (.head _ _)) | exact .tail (.tail (.tail (.head _ _))) | exact .tail (.tail (.tail (.tail (.head _ _)))) | exact .tail (.tail (.tail (.tail (.tail (.head _ _)))))); (first | (focus (simp only [List.getElem?_toArray, List.getElem?_cons_zero, List.getElem?_cons_succ]; rfl)) | exact tab_get (by omega) | rfl); (first | exact one3 | exact one39); simp only [Act.put, List.setIfInBounds_toArray, List.set_cons_zero, List.set_cons_succ])
    | ((with_reducible refine wpl ?_); apply st_cell (hM := hM); rfl; (first | exact want_none rfl | exact want_some rfl rfl rfl rfl); rfl; (first | (focus (go_simp; done)) | (focus (go_simp; rfl))); (first | exact .head _ _ | exact .tail (.head _ _) | exact .tail (.tail (.head _ _)) | exact .tail (.tail (.tail (.head _ _))) | exact .tail (.tail (.tail (.tail (.head _ _)))) | exact .tail (.tail (.tail (.tail (.tail (.head _ _)))))); (first | (focus (simp; done)) | (focus (rw [tab_size]; omega))); rfl; (first | exact one3 | exact one39); intro w1 hM1; clear hM; (try simp only [List.setIfInBounds_toArray, List.set_cons_zero, List.set_cons_succ] at hM1); (try rw [tab_setInt] at hM1);  have hM := hM1; clear hM1; simp only [Act.put, List.setIfInBounds_toArray, List.set_cons_zero, List.set_cons_succ]))
  have hl0 := hL_hb1.trans hl1
  have hM0 : Mem B1 _ [] [] := hM.swap.none.swap.none
  clear hM
  have hM := hM0
  clear hM0
  refine (new hM n0 (by omega) rfl).mono ?_
  rintro e w3 ⟨p, s, rfl, hn, ok, hm, hH, hM1⟩
  clear hM
  have hM := hM1
  clear hM1
  have hc0 := Cs.start ok hH
  clear hm hH ok
  replace hn := hid_ hn
  clear hb1 hc1 hI1 hI1' hi1 hH1 hc00 ok0 hm00 hn00
  go_wp2_with (first
    | ((with_reducible refine wpl ?_); apply al_box (hM := hM); rfl; (first | exact want_none rfl | exact want_some rfl rfl rfl rfl); (first | (focus (go_simp; done)) | (focus (go_simp; rfl))); intro gb w1 hM1; clear hM; dsimp only [Value.cells] at hM1; have hM := hM1; clear hM1; simp only [Act.put, List.setIfInBounds_toArray, List.set_cons_zero, List.set_cons_succ])
    | ((with_reducible refine wpl ?_); apply al_zero (hM := hM); rfl; (first | exact want_none rfl | exact want_some rfl rfl rfl rfl); (first | exact zero41 | exact zero45); intro gz w1 hM1; clear hM; dsimp only [Value.cells] at hM1; have hM := hM1; clear hM1; simp only [Act.put, List.setIfInBounds_toArray, List.set_cons_zero, List.set_cons_succ])
    | ((with_reducible refine wpl ?_); apply ld_row (hM := hM); rfl; (first | exact want_none rfl | exact want_some rfl rfl rfl rfl); rfl; (first | exact .head _ _ | exact .tail (.head _ _) | exact .tail (.tail (.head _ _)) | exact .tail (.tail (.tail (.head _ _))) | exact .tail (.tail (.tail (.tail (.head _ _)))) | exact .tail (.tail (.tail (.tail (.tail (.head _ _)))))); (first | exact row41 | exact row45); simp only [Act.put, List.setIfInBounds_toArray, List.set_cons_zero, List.set_cons_succ])
    | ((with_reducible refine wpl ?_); apply st_row (hM := hM); rfl; (first | exact want_none rfl | exact want_some rfl rfl rfl rfl); rfl; (first | (focus (go_simp; done)) | (focus (go_simp; rfl))); (first | exact .head _ _ | exact .tail (.head _ _) | exact .tail (.tail (.head _ _)) | exact .tail (.tail (.tail (.head _ _))) | exact .tail (.tail (.tail (.tail (.head _ _)))) | exact .tail (.tail (.tail (.tail (.tail (.head _ _)))))); rfl; rfl; (first | exact row41 | exact row45); intro w1 hM1; clear hM; (try simp only [List.setIfInBounds_toArray, List.set_cons_zero, List.set_cons_succ] at hM1); (try rw [tab_setInt] at hM1);  have hM := hM1; clear hM1; simp only [Act.put, List.setIfInBounds_toArray, List.set_cons_zero, List.set_cons_succ])
    | ((with_reducible refine wpl ?_); apply ld_one (hM := hM); rfl; (first | exact want_none rfl | exact want_some rfl rfl rfl rfl); rfl; (first | exact .head _ _ | exact .tail (.head _ _) | exact .tail (.tail (.head _ _)) | exact .tail (.tail (.tail (.head _ _))) | exact .tail (.tail (.tail (.tail (.head _ _)))) | exact .tail (.tail (.tail (.tail (.tail (.head _ _)))))); (first | (focus (simp only [List.getElem?_toArray, List.getElem?_cons_zero, List.getElem?_cons_succ]; rfl)) | exact tab_get (by omega) | rfl); (first | exact one3 | exact one39); simp only [Act.put, List.setIfInBounds_toArray, List.set_cons_zero, List.set_cons_succ])
    | ((with_reducible refine wpl ?_); apply st_cell (hM := hM); rfl; (first | exact want_none rfl | exact want_some rfl rfl rfl rfl); rfl; (first | (focus (go_simp; done)) | (focus (go_simp; rfl))); (first | exact .head _ _ | exact .tail (.head _ _) | exact .tail (.tail (.head _ _)) | exact .tail (.tail (.tail (.head _ _))) | exact .tail (.tail (.tail (.tail (.head _ _)))) | exact .tail (.tail (.tail (.tail (.tail (.head _ _)))))); (first | (focus (simp; done)) | (focus (rw [tab_size]; omega))); rfl; (first | exact one3 | exact one39); intro w1 hM1; clear hM; (try simp only [List.setIfInBounds_toArray, List.set_cons_zero, List.set_cons_succ] at hM1); (try rw [tab_setInt] at hM1);  have hM := hM1; clear hM1; simp only [Act.put, List.setIfInBounds_toArray, List.set_cons_zero, List.set_cons_succ]))
  go_loopg [71, 9] ops.length (fun q xj xa wr => ∃ (j : Nat) (ss : St) (B : Base) (cs : List Ct) (va : Value) (Ra : List Blk), Hid (q + j = ops.length) ∧ xj = .int .i64 j ∧ xa = va ∧ Le (w : Base) B ∧ Cs p ss cs ∧ In B cs ∧ Hid (cs.length ≤ j) ∧ Hid (∀ d ∈ cs, d.b.length ≤ 300 * j) ∧ Tbl 41 2 va (cs.flatMap ctc) Ra ∧ Mem B wr (arena p ss) Ra)
  case atStart => exact ⟨0, s, B1, [], _, [], hid_ (Nat.add_zero _), by go_num, rfl, hl0, hc0, In.nil _, hid_ (Nat.zero_le _), hid_ (fun d hd => by simp at hd), .nil, hM⟩
  case round =>
    obtain ⟨j, ss, B, cs, va, Ra, hq, rfl, rfl, hle, hcs, hIs, hjl, hdl, hTa, hMr⟩ := hrel
    clear hM hl0 hl1 hL_hb1 hc0
    have hM := hMr
    clear hMr
    by_cases hlt : j < ops.length
    · obtain ⟨ya, rfl, hrec⟩ := op_get hO hlt
      replace hrec := hid_ hrec
      have hqk : 1 ≤ gk := by have := hq.out; omega
      have hfa : (cs.flatMap ctc).length ≤ 200 := by rw [flat_len ctc 2 (ctc_len _)]; have := hjl.out; omega
      generalize ops[j] = oo at hrec
      obtain ⟨ok_, op_, on_⟩ := oo
      simp only at hrec
      obtain ⟨ab, an, ac, rfl, hFa⟩ := hTa.slice
      have han : Hid (an = cs.length) := hid_ (by rw [flat_len ctc 2 (ctc_len _)] at hFa; omega)
      clear hFa
      by_cases h0 : an = 0
      · have t3 : ((an : Int) == 0) = true := beq_iff_eq.2 (by omega)
        clear h0
        as_aux_lemma =>
          go_wp2_with (first | ((with_reducible refine wpl ?_); apply al_elem (hM := hM) (ht := sl44) (v := .agg #[.slice none 0 0, .int .i64 0]) (cells := #[.slice none 0 0, .int .i64 0]); rfl; (first | exact want_none rfl | exact want_some rfl rfl rfl rfl); decide; (first | rfl | (focus (go_simp; done))); simp [Instr.fill, Value.cells, Array.range_succ, Array.range_zero']; intro gq w1 hM1; clear hM; have hM := hM1; clear hM1; simp only [Act.put, List.setIfInBounds_toArray, List.set_cons_zero, List.set_cons_succ]) | ((with_reducible refine wpl ?_); apply tb_app_p (hM := hM) (hT := hTa) (es := [.slice none 0 0, .int .i64 0]) (A := [⟨gz, #[.int .i64 ok_, .int .i64 op_, .int .i64 on_], 45, (0, 0)⟩]) (ht := sl44); rfl; (first | exact want_none rfl | exact want_some rfl rfl rfl rfl); rfl; exact List.Perm.refl _; rfl; rfl; rfl; rfl; decide; omega; omega; intro g c n cells w1 hn1 hTa1 hM1; clear hM; simp only [List.cons_append, List.nil_append] at hM1; have hM := hM1; clear hM1; simp only [Act.put, List.setIfInBounds_toArray, List.set_cons_zero, List.set_cons_succ]) | ((with_reducible refine wpl ?_); apply ld_any [.int .i64 ok_, .int .i64 op_, .int .i64 on_]; rfl; (first | exact want_none rfl | exact want_some rfl rfl rfl rfl); rfl; exact (fun i u hu => came_cell (hle.mem hM) (hrec.out i u hu)); exact row45; simp only [Act.put, List.setIfInBounds_toArray, List.set_cons_zero, List.set_cons_succ]) | ((with_reducible refine wpl ?_); apply al_box (hM := hM); rfl; (first | exact want_none rfl | exact want_some rfl rfl rfl rfl); (first | (focus (go_simp; done)) | (focus (go_simp; rfl))); intro gb w1 hM1; clear hM; dsimp only [Value.cells] at hM1; have hM := hM1; clear hM1; simp only [Act.put, List.setIfInBounds_toArray, List.set_cons_zero, List.set_cons_succ]) | ((with_reducible refine wpl ?_); apply al_zero (hM := hM); rfl; (first | exact want_none rfl | exact want_some rfl rfl rfl rfl); (first | exact zero41 | exact zero45); intro gz w1 hM1; clear hM; dsimp only [Value.cells] at hM1; have hM := hM1; clear hM1; simp only [Act.put, List.setIfInBounds_toArray, List.set_cons_zero, List.set_cons_succ]) | ((with_reducible refine wpl ?_); apply ld_row (hM := hM); rfl; (first | exact want_none rfl | exact want_some rfl rfl rfl rfl); rfl; (first | exact .head _ _ | exact .tail (.head _ _) | exact .tail (.tail (.head _ _)) | exact .tail (.tail (.tail (.head _ _))) | exact .tail (.tail (.tail (.tail (.head _ _)))) | exact .tail (.tail (.tail (.tail (.tail (.head _ _)))))); (first | exact row41 | exact row45); simp only [Act.put, List.setIfInBounds_toArray, List.set_cons_zero, List.set_cons_succ]) | ((with_reducible refine wpl ?_); apply st_row (hM := hM); rfl; (first | exact want_none rfl | exact want_some rfl rfl rfl rfl); rfl; (first | (focus (go_simp; done)) | (focus (go_simp; rfl))); (first | exact .head _ _ | exact .tail (.head _ _) | exact .tail (.tail (.head _ _)) | exact .tail (.tail (.tail (.head _ _))) | exact .tail (.tail (.tail (.tail (.head _ _)))) | exact .tail (.tail (.tail (.tail (.tail (.head _ _)))))); rfl; rfl; (first | exact row41 | exact row45); intro w1 hM1; clear hM; (try simp only [List.setIfInBounds_toArray, List.set_cons_zero, List.set_cons_succ] at hM1); (try rw [tab_setInt] at hM1);  have hM := hM1; clear hM1; simp only [Act.put, List.setIfInBounds_toArray, List.set_cons_zero, List.set_cons_succ]) | ((with_reducible refine wpl ?_); apply ld_one (hM := hM); rfl; (first | exact want_none rfl | exact want_some rfl rfl rfl rfl); rfl; (first | exact .head _ _ | exact .tail (.head _ _) | exact .tail (.tail (.head _ _)) | exact .tail (.tail (.tail (.head _ _))) | exact .tail (.tail (.tail (.tail (.head _ _)))) | exact .tail (.tail (.tail (.tail (.tail (.head _ _)))))); (first | (focus (simp only [List.getElem?_toArray, List.getElem?_cons_zero, List.getElem?_cons_succ]; rfl)) | exact tab_get (by omega) | rfl); (first | exact one3 | exact one39); simp only [Act.put, List.setIfInBounds_toArray, List.set_cons_zero, List.set_cons_succ]) | ((with_reducible refine wpl ?_); apply st_cell (hM := hM); rfl; (first | exact want_none rfl | exact want_some rfl rfl rfl rfl); rfl; (first | (focus (go_simp; done)) | (focus (go_simp; rfl))); (first | exact .head _ _ | exact .tail (.head _ _) | exact .tail (.tail (.head _ _)) | exact .tail (.tail (.tail (.head _ _))) | exact .tail (.tail (.tail (.tail (.head _ _)))) | exact .tail (.tail (.tail (.tail (.tail (.head _ _)))))); (first | (focus (simp; done)) | (focus (rw [tab_size]; omega))); rfl; (first | exact one3 | exact one39); intro w1 hM1; clear hM; (try simp only [List.setIfInBounds_toArray, List.set_cons_zero, List.set_cons_succ] at hM1); (try rw [tab_setInt] at hM1);  have hM := hM1; clear hM1; simp only [Act.put, List.setIfInBounds_toArray, List.set_cons_zero, List.set_cons_succ]))
          go_roundg (gk - 1)
          case measure => omega
          case rel =>
            refine ⟨j + 1, ss, B, cs ++ [none_], _, _, hid_ (by have := hq.out; omega), by go_num, rfl, hle, hcs.begin_.perm (List.perm_append_singleton _ _).symm, (hIs.cons (c := none_) (IdsAt.nil _)).perm (List.perm_append_singleton _ _).symm, hid_ (by rw [List.length_append, List.length_singleton]; have := hjl.out; omega), hid_ (fun d hd => ?_), by rw [← flat_app]; exact hTa1, hM.tail⟩
            rcases List.mem_append.1 hd with hd | hd
            · have := hdl.out d hd; omega
            · rw [List.mem_singleton] at hd
              subst hd
              exact Nat.zero_le _
      · have t3 : ((an : Int) == 0) = false := beq_eq_false_iff_ne.2 (by omega)
        by_cases h3 : ok_.tmod 4 = 3
        · have t4 : (ok_.tmod 4 == 3) = true := beq_iff_eq.2 h3
          clear h3
          as_aux_lemma =>
            go_wp2_with (first | ((with_reducible refine wpl ?_); apply al_elem (hM := hM) (ht := sl44) (v := .agg #[.slice none 0 0, .int .i64 0]) (cells := #[.slice none 0 0, .int .i64 0]); rfl; (first | exact want_none rfl | exact want_some rfl rfl rfl rfl); decide; (first | rfl | (focus (go_simp; done))); simp [Instr.fill, Value.cells, Array.range_succ, Array.range_zero']; intro gq w1 hM1; clear hM; have hM := hM1; clear hM1; simp only [Act.put, List.setIfInBounds_toArray, List.set_cons_zero, List.set_cons_succ]) | ((with_reducible refine wpl ?_); apply tb_app_p (hM := hM) (hT := hTa) (es := [.slice none 0 0, .int .i64 0]) (A := [⟨gz, #[.int .i64 ok_, .int .i64 op_, .int .i64 on_], 45, (0, 0)⟩]) (ht := sl44); rfl; (first | exact want_none rfl | exact want_some rfl rfl rfl rfl); rfl; exact List.Perm.refl _; rfl; rfl; rfl; rfl; decide; omega; omega; intro g c n cells w1 hn1 hTa1 hM1; clear hM; simp only [List.cons_append, List.nil_append] at hM1; have hM := hM1; clear hM1; simp only [Act.put, List.setIfInBounds_toArray, List.set_cons_zero, List.set_cons_succ]) | ((with_reducible refine wpl ?_); apply ld_any [.int .i64 ok_, .int .i64 op_, .int .i64 on_]; rfl; (first | exact want_none rfl | exact want_some rfl rfl rfl rfl); rfl; exact (fun i u hu => came_cell (hle.mem hM) (hrec.out i u hu)); exact row45; simp only [Act.put, List.setIfInBounds_toArray, List.set_cons_zero, List.set_cons_succ]) | ((with_reducible refine wpl ?_); apply al_box (hM := hM); rfl; (first | exact want_none rfl | exact want_some rfl rfl rfl rfl); (first | (focus (go_simp; done)) | (focus (go_simp; rfl))); intro gb w1 hM1; clear hM; dsimp only [Value.cells] at hM1; have hM := hM1; clear hM1; simp only [Act.put, List.setIfInBounds_toArray, List.set_cons_zero, List.set_cons_succ]) | ((with_reducible refine wpl ?_); apply al_zero (hM := hM); rfl; (first | exact want_none rfl | exact want_some rfl rfl rfl rfl); (first | exact zero41 | exact zero45); intro gz w1 hM1; clear hM; dsimp only [Value.cells] at hM1; have hM := hM1; clear hM1; simp only [Act.put, List.setIfInBounds_toArray, List.set_cons_zero, List.set_cons_succ]) | ((with_reducible refine wpl ?_); apply ld_row (hM := hM); rfl; (first | exact want_none rfl | exact want_some rfl rfl rfl rfl); rfl; (first | exact .head _ _ | exact .tail (.head _ _) | exact .tail (.tail (.head _ _)) | exact .tail (.tail (.tail (.head _ _))) | exact .tail (.tail (.tail (.tail (.head _ _)))) | exact .tail (.tail (.tail (.tail (.tail (.head _ _)))))); (first | exact row41 | exact row45); simp only [Act.put, List.setIfInBounds_toArray, List.set_cons_zero, List.set_cons_succ]) | ((with_reducible refine wpl ?_); apply st_row (hM := hM); rfl; (first | exact want_none rfl | exact want_some rfl rfl rfl rfl); rfl; (first | (focus (go_simp; done)) | (focus (go_simp; rfl))); (first | exact .head _ _ | exact .tail (.head _ _) | exact .tail (.tail (.head _ _)) | exact .tail (.tail (.tail (.head _ _))) | exact .tail (.tail (.tail (.tail (.head _ _)))) | exact .tail (.tail (.tail (.tail (.tail (.head _ _)))))); rfl; rfl; (first | exact row41 | exact row45); intro w1 hM1; clear hM; (try simp only [List.setIfInBounds_toArray, List.set_cons_zero, List.set_cons_succ] at hM1); (try rw [tab_setInt] at hM1);  have hM := hM1; clear hM1; simp only [Act.put, List.setIfInBounds_toArray, List.set_cons_zero, List.set_cons_succ]) | ((with_reducible refine wpl ?_); apply ld_one (hM := hM); rfl; (first | exact want_none rfl | exact want_some rfl rfl rfl rfl); rfl; (first | exact .head _ _ | exact .tail (.head _ _) | exact .tail (.tail (.head _ _)) | exact .tail (.tail (.tail (.head _ _))) | exact .tail (.tail (.tail (.tail (.head _ _)))) | exact .tail (.tail (.tail (.tail (.tail (.head _ _)))))); (first | (focus (simp only [List.getElem?_toArray, List.getElem?_cons_zero, List.getElem?_cons_succ]; rfl)) | exact tab_get (by omega) | rfl); (first | exact one3 | exact one39); simp only [Act.put, List.setIfInBounds_toArray, List.set_cons_zero, List.set_cons_succ]) | ((with_reducible refine wpl ?_); apply st_cell (hM := hM); rfl; (first | exact want_none rfl | exact want_some rfl rfl rfl rfl); rfl; (first | (focus (go_simp; done)) | (focus (go_simp; rfl))); (first | exact .head _ _ | exact .tail (.head _ _) | exact .tail (.tail (.head _ _)) | exact .tail (.tail (.tail (.head _ _))) | exact .tail (.tail (.tail (.tail (.head _ _)))) | exact .tail (.tail (.tail (.tail (.tail (.head _ _)))))); (first | (focus (simp; done)) | (focus (rw [tab_size]; omega))); rfl; (first | exact one3 | exact one39); intro w1 hM1; clear hM; (try simp only [List.setIfInBounds_toArray, List.set_cons_zero, List.set_cons_succ] at hM1); (try rw [tab_setInt] at hM1);  have hM := hM1; clear hM1; simp only [Act.put, List.setIfInBounds_toArray, List.set_cons_zero, List.set_cons_succ]))
            go_roundg (gk - 1)
            case measure => omega
            case rel =>
              refine ⟨j + 1, ss, B, cs ++ [none_], _, _, hid_ (by have := hq.out; omega), by go_num, rfl, hle, hcs.begin_.perm (List.perm_append_singleton _ _).symm, (hIs.cons (c := none_) (IdsAt.nil _)).perm (List.perm_append_singleton _ _).symm, hid_ (by rw [List.length_append, List.length_singleton]; have := hjl.out; omega), hid_ (fun d hd => ?_), by rw [← flat_app]; exact hTa1, hM.tail⟩
              rcases List.mem_append.1 hd with hd | hd
              · have := hdl.out d hd; omega
              · rw [List.mem_singleton] at hd
                subst hd
                exact Nat.zero_le _
        · have t4 : (ok_.tmod 4 == 3) = false := beq_eq_false_iff_ne.2 h3
          clear h3
          have hn1 : 0 < an := by omega
          clear h0
          obtain ⟨ga, ca, rfl, rfl, hca, hacl, hcea⟩ := hTa.inv hn1
          obtain ⟨pm, hpm⟩ : ∃ pm : Nat, Hid ((pm : Int) = if 0 < op_ then op_ else 0) := ⟨op_.toNat, hid_ (by split <;> omega)⟩
          obtain ⟨i, hi⟩ : ∃ i, Hid (i = pm % an) := ⟨_, hid_ rfl⟩
          have hian : i < an := by rw [hi.out]; exact Nat.mod_lt _ hn1
          have hmod : (pm : Int) % (an : Int) = (i : Int) := by rw [hi.out]; exact (Int.natCast_emod _ _).symm
          have hics : i < cs.length := by have := han.out; omega
          have hi0 : (0 : Int) ≤ (i : Int) := by omega
          have hi1 : (i : Int) < (an : Int) := by omega
          have hanb : an ≤ 60 := by have h1 := han.out; have h2 := hjl.out; omega
          have hn1i : (0 : Int) < (an : Int) := by omega
          go_upto_block 2 with (first | ((with_reducible refine wpl ?_); apply ld_any [.int .i64 ok_, .int .i64 op_, .int .i64 on_]; rfl; (first | exact want_none rfl | exact want_some rfl rfl rfl rfl); rfl; exact (fun i u hu => came_cell (hle.mem hM) (hrec.out i u hu)); exact row45; simp only [Act.put, List.setIfInBounds_toArray, List.set_cons_zero, List.set_cons_succ]) | ((with_reducible refine wpl ?_); apply mx_zero (pm := pm); rfl; (first | exact want_none rfl | exact want_some rfl rfl rfl rfl); rfl; rfl; exact hpm; simp only [Act.put, List.setIfInBounds_toArray, List.set_cons_zero, List.set_cons_succ]) | ((with_reducible refine wpl ?_); apply al_box (hM := hM); rfl; (first | exact want_none rfl | exact want_some rfl rfl rfl rfl); (first | (focus (go_simp; done)) | (focus (go_simp; rfl))); intro gb w1 hM1; clear hM; dsimp only [Value.cells] at hM1; have hM := hM1; clear hM1; simp only [Act.put, List.setIfInBounds_toArray, List.set_cons_zero, List.set_cons_succ]) | ((with_reducible refine wpl ?_); apply al_zero (hM := hM); rfl; (first | exact want_none rfl | exact want_some rfl rfl rfl rfl); (first | exact zero41 | exact zero45); intro gz w1 hM1; clear hM; dsimp only [Value.cells] at hM1; have hM := hM1; clear hM1; simp only [Act.put, List.setIfInBounds_toArray, List.set_cons_zero, List.set_cons_succ]) | ((with_reducible refine wpl ?_); apply ld_row (hM := hM); rfl; (first | exact want_none rfl | exact want_some rfl rfl rfl rfl); rfl; (first | exact .head _ _ | exact .tail (.head _ _) | exact .tail (.tail (.head _ _)) | exact .tail (.tail (.tail (.head _ _))) | exact .tail (.tail (.tail (.tail (.head _ _)))) | exact .tail (.tail (.tail (.tail (.tail (.head _ _)))))); (first | exact row41 | exact row45); simp only [Act.put, List.setIfInBounds_toArray, List.set_cons_zero, List.set_cons_succ]) | ((with_reducible refine wpl ?_); apply st_row (hM := hM); rfl; (first | exact want_none rfl | exact want_some rfl rfl rfl rfl); rfl; (first | (focus (go_simp; done)) | (focus (go_simp; rfl))); (first | exact .head _ _ | exact .tail (.head _ _) | exact .tail (.tail (.head _ _)) | exact .tail (.tail (.tail (.head _ _))) | exact .tail (.tail (.tail (.tail (.head _ _)))) | exact .tail (.tail (.tail (.tail (.tail (.head _ _)))))); rfl; rfl; (first | exact row41 | exact row45); intro w1 hM1; clear hM; (try simp only [List.setIfInBounds_toArray, List.set_cons_zero, List.set_cons_succ] at hM1); (try rw [tab_setInt] at hM1);  have hM := hM1; clear hM1; simp only [Act.put, List.setIfInBounds_toArray, List.set_cons_zero, List.set_cons_succ]) | ((with_reducible refine wpl ?_); apply ld_one (hM := hM); rfl; (first | exact want_none rfl | exact want_some rfl rfl rfl rfl); rfl; (first | exact .head _ _ | exact .tail (.head _ _) | exact .tail (.tail (.head _ _)) | exact .tail (.tail (.tail (.head _ _))) | exact .tail (.tail (.tail (.tail (.head _ _)))) | exact .tail (.tail (.tail (.tail (.tail (.head _ _)))))); (first | (focus (simp only [List.getElem?_toArray, List.getElem?_cons_zero, List.getElem?_cons_succ]; rfl)) | exact tab_get (by omega) | rfl); (first | exact one3 | exact one39); simp only [Act.put, List.setIfInBounds_toArray, List.set_cons_zero, List.set_cons_succ]) | ((with_reducible refine wpl ?_); apply st_cell (hM := hM); rfl; (first | exact want_none rfl | exact want_some rfl rfl rfl rfl); rfl; (first | (focus (go_simp; done)) | (focus (go_simp; rfl))); (first | exact .head _ _ | exact .tail (.head _ _) | exact .tail (.tail (.head _ _)) | exact .tail (.tail (.tail (.head _ _))) | exact .tail (.tail (.tail (.tail (.head _ _)))) | exact .tail (.tail (.tail (.tail (.tail (.head _ _)))))); (first | (focus (simp; done)) | (focus (rw [tab_size]; omega))); rfl; (first | exact one3 | exact one39); intro w1 hM1; clear hM; (try simp only [List.setIfInBounds_toArray, List.set_cons_zero, List.set_cons_succ] at hM1); (try rw [tab_setInt] at hM1);  have hM := hM1; clear hM1; simp only [Act.put, List.setIfInBounds_toArray, List.set_cons_zero, List.set_cons_succ]))
          obtain ⟨gO, rfl⟩ : ∃ g : Nat, g = gz := ⟨_, rfl⟩
          simp only [hmod]
          clear hmod
          go_cut [9] (fun xa wx => ∃ (s6 : St) (B6 : Base) (cs6 : List Ct) (va6 : Value) (Ra6 : List Blk), xa = va6 ∧ Le (w : Base) B6 ∧ Cs p s6 cs6 ∧ In B6 cs6 ∧ Hid (cs6.length ≤ j + 1) ∧ Hid (∀ d ∈ cs6, d.b.length ≤ 300 * (j + 1)) ∧ Tbl 41 2 va6 (cs6.flatMap ctc) Ra6 ∧ Mem B6 wx (arena p s6) Ra6)
          case first =>
            obtain ⟨ci, hci⟩ : ∃ c, Hid (c = cs[i]) := ⟨_, hid_ rfl⟩
            have hmem : ci ∈ cs := by rw [hci.out]; exact List.getElem_mem _
            have hela : Hid (∀ q v, (ctc ci)[q]? = some v → ca[i * 2 + q]? = some v) := hid_ (fun u v hu => by
              have h1 : u < 2 := (List.getElem?_eq_some_iff.1 hu).1
              rw [hcea.out _ (by omega), flat_at ctc 2 (ctc_len _) hics u h1, ← hci.out]
              exact hu)
            have hperm : Hid (cs.Perm (ci :: cs.eraseIdx i)) := hid_ (by rw [hci.out]; exact erase_perm hics)
            have hIx := hIs _ hmem
            have hbl := hdl.out _ hmem
            obtain ⟨x, L, b⟩ := ci
            obtain ⟨xa, xk, hxx⟩ := (hIx _ _ _ hM).len
            simp only at hxx hbl
            subst hxx
            have hela : Hid (∀ q v, [Value.slice xa L.length xk, .int .i64 (b.length : Nat)][q]? = some v → ca[i * 2 + q]? = some v) := hela
            have hc1 := hcs.perm hperm.out
            have hI1 := hIs.perm hperm.out
            have hblb : b.length ≤ 18000 := by omega
            have hlenc : (cs.eraseIdx i).length + 1 = cs.length := by rw [List.length_eraseIdx, if_pos hics]; omega
            replace hlenc := hid_ hlenc
            by_cases hk : ok_.tmod 4 = 0
            · have s0 : (ok_.tmod 4 == 0) = true := beq_iff_eq.2 hk
              clear hk
              obtain ⟨mn, hmn⟩ : ∃ mn : Int, Hid (mn = if 300 < on_ then 300 else on_) := ⟨_, hid_ rfl⟩
              obtain ⟨km, hkm⟩ : ∃ km : Nat, Hid ((km : Int) = if 0 < mn then mn else 0) := ⟨mn.toNat, hid_ (by split <;> omega)⟩
              have hkmb : km ≤ 300 := by
                have h1 := hkm.out
                have h2 := hmn.out
                split at h1 <;> split at h2 <;> omega
              obtain ⟨nl, hnl⟩ : ∃ nl, Hid (nl = b.length + km) := ⟨_, hid_ rfl⟩
              by_cases hfit : more ss.H L b.length km ≤ ss.m
              · replace hfit := hid_ hfit
                as_aux_lemma =>
                  go_wp2_with (first | ((with_reducible refine wpl ?_); apply al_box (hM := hM); rfl; (first | exact want_none rfl | exact want_some rfl rfl rfl rfl); (first | (focus (go_simp; done)) | (focus (go_simp; rfl))); intro gb w1 hM1; clear hM; dsimp only [Value.cells] at hM1; have hM := hM1; clear hM1; simp only [Act.put, List.setIfInBounds_toArray, List.set_cons_zero, List.set_cons_succ]) | ((with_reducible refine wpl ?_); apply al_zero (hM := hM); rfl; (first | exact want_none rfl | exact want_some rfl rfl rfl rfl); (first | exact zero41 | exact zero45); intro gz w1 hM1; clear hM; dsimp only [Value.cells] at hM1; have hM := hM1; clear hM1; simp only [Act.put, List.setIfInBounds_toArray, List.set_cons_zero, List.set_cons_succ]) | ((with_reducible refine wpl ?_); apply ld_row (hM := hM); rfl; (first | exact want_none rfl | exact want_some rfl rfl rfl rfl); rfl; (first | exact .head _ _ | exact .tail (.head _ _) | exact .tail (.tail (.head _ _)) | exact .tail (.tail (.tail (.head _ _))) | exact .tail (.tail (.tail (.tail (.head _ _)))) | exact .tail (.tail (.tail (.tail (.tail (.head _ _)))))); (first | exact row41 | exact row45); simp only [Act.put, List.setIfInBounds_toArray, List.set_cons_zero, List.set_cons_succ]) | ((with_reducible refine wpl ?_); apply st_row (hM := hM); rfl; (first | exact want_none rfl | exact want_some rfl rfl rfl rfl); rfl; (first | (focus (go_simp; done)) | (focus (go_simp; rfl))); (first | exact .head _ _ | exact .tail (.head _ _) | exact .tail (.tail (.head _ _)) | exact .tail (.tail (.tail (.head _ _))) | exact .tail (.tail (.tail (.tail (.head _ _)))) | exact .tail (.tail (.tail (.tail (.tail (.head _ _)))))); rfl; rfl; (first | exact row41 | exact row45); intro w1 hM1; clear hM; (try simp only [List.setIfInBounds_toArray, List.set_cons_zero, List.set_cons_succ] at hM1); (try rw [tab_setInt] at hM1);  have hM := hM1; clear hM1; simp only [Act.put, List.setIfInBounds_toArray, List.set_cons_zero, List.set_cons_succ]) | ((with_reducible refine wpl ?_); apply ld_one (hM := hM); rfl; (first | exact want_none rfl | exact want_some rfl rfl rfl rfl); rfl; (first | exact .head _ _ | exact .tail (.head _ _) | exact .tail (.tail (.head _ _)) | exact .tail (.tail (.tail (.head _ _))) | exact .tail (.tail (.tail (.tail (.head _ _)))) | exact .tail (.tail (.tail (.tail (.tail (.head _ _)))))); (first | (focus (simp only [List.getElem?_toArray, List.getElem?_cons_zero, List.getElem?_cons_succ]; rfl)) | exact tab_get (by omega) | rfl); (first | exact one3 | exact one39); simp only [Act.put, List.setIfInBounds_toArray, List.set_cons_zero, List.set_cons_succ]) | ((with_reducible refine wpl ?_); apply st_cell (hM := hM); rfl; (first | exact want_none rfl | exact want_some rfl rfl rfl rfl); rfl; (first | (focus (go_simp; done)) | (focus (go_simp; rfl))); (first | exact .head _ _ | exact .tail (.head _ _) | exact .tail (.tail (.head _ _)) | exact .tail (.tail (.tail (.head _ _))) | exact .tail (.tail (.tail (.tail (.head _ _)))) | exact .tail (.tail (.tail (.tail (.tail (.head _ _)))))); (first | (focus (simp; done)) | (focus (rw [tab_size]; omega))); rfl; (first | exact one3 | exact one39); intro w1 hM1; clear hM; (try simp only [List.setIfInBounds_toArray, List.set_cons_zero, List.set_cons_succ] at hM1); (try rw [tab_setInt] at hM1);  have hM := hM1; clear hM1; simp only [Act.put, List.setIfInBounds_toArray, List.set_cons_zero, List.set_cons_succ]))
                  refine reg_begin (fun w' => Mem B w' [] [⟨gO, #[.int .i64 ok_, .int .i64 op_, .int .i64 on_], 45, (0, 0)⟩, ⟨ga, ca, 41, (0, 0)⟩]) (by kernel_rfl) hM (fun wd hMd => ?_)
                  clear hM
                  have hM := hMd
                  clear hMd
                  have hS := hM.swap.none.swap
                  refine reg_free 0 (v := own p) rfl (by kernel_rfl) (by kernel_rfl) (by kernel_rfl) (fun _ _ _ h => h) (by (first | exact want_none rfl | exact want_some rfl rfl rfl rfl)) (fun w => by go_simp) hS ?_
                  simp only [Act.put, List.setIfInBounds_toArray, List.set_cons_zero, List.set_cons_succ]
                  refine reg_free 1 (v := .slice (some ⟨ga, 0, none⟩) an ac) rfl (by kernel_rfl) (by kernel_rfl) (by kernel_rfl) (fun _ _ _ h => h) (by (first | exact want_none rfl | exact want_some rfl rfl rfl rfl)) (fun w => by go_simp) hS ?_
                  simp only [Act.put, List.setIfInBounds_toArray, List.set_cons_zero, List.set_cons_succ]
                  refine reg_free 2 (v := .int .i64 (i : Nat)) rfl (by kernel_rfl) (by kernel_rfl) (by kernel_rfl) (fun _ _ _ h => h) (by (first | exact want_none rfl | exact want_some rfl rfl rfl rfl)) (fun w => by go_simp) hS ?_
                  simp only [Act.put, List.setIfInBounds_toArray, List.set_cons_zero, List.set_cons_succ]
                  refine reg_free 3 (v := .pointer (some ⟨ga, i * 2, none⟩)) rfl (by kernel_rfl) (by kernel_rfl) (by kernel_rfl) (fun _ _ _ h => h) (by (first | exact want_none rfl | exact want_some rfl rfl rfl rfl)) (fun w => by go_simp) hS ?_
                  simp only [Act.put, List.setIfInBounds_toArray, List.set_cons_zero, List.set_cons_succ]
                  refine rg_row 4 [.slice xa L.length xk, .int .i64 (b.length : Nat)] rfl (by kernel_rfl) (by kernel_rfl) (by kernel_rfl) (fun _ _ _ h => h) (by (first | exact want_none rfl | exact want_some rfl rfl rfl rfl)) rfl rfl (fun w' h' => h'.at_off (.tail (.head _ _)) _ hela.out) row41 hS ?_
                  simp only [Act.put, List.setIfInBounds_toArray, List.set_cons_zero, List.set_cons_succ]
                  refine reg_free 5 (v := .pointer (some ⟨gO, 2, none⟩)) rfl (by kernel_rfl) (by kernel_rfl) (by kernel_rfl) (fun _ _ _ h => h) (by (first | exact want_none rfl | exact want_some rfl rfl rfl rfl)) (fun w => by go_simp) hS ?_
                  simp only [Act.put, List.setIfInBounds_toArray, List.set_cons_zero, List.set_cons_succ]
                  refine rg_one 6 (v := .int .i64 on_) rfl (by kernel_rfl) (by kernel_rfl) (by kernel_rfl) (fun _ _ _ h => h) (by (first | exact want_none rfl | exact want_some rfl rfl rfl rfl)) rfl rfl (fun w' h' => (h'.cell (.head _ _) 2).trans rfl) one3 hS ?_
                  simp only [Act.put, List.setIfInBounds_toArray, List.set_cons_zero, List.set_cons_succ]
                  refine reg_free 7 (v := .int .i64 mn) rfl (by kernel_rfl) (by kernel_rfl) (by kernel_rfl) (fun _ _ _ h => h) (by (first | exact want_none rfl | exact want_some rfl rfl rfl rfl)) (fun w => by exact run_mn w rfl rfl rfl hmn.out) hS ?_
                  simp only [Act.put, List.setIfInBounds_toArray, List.set_cons_zero, List.set_cons_succ]
                  refine reg_free 8 (v := .int .i64 (km : Nat)) rfl (by kernel_rfl) (by kernel_rfl) (by kernel_rfl) (fun _ _ _ h => h) (by (first | exact want_none rfl | exact want_some rfl rfl rfl rfl)) (fun w => by exact run_mx0 w rfl rfl rfl hkm.out) hS ?_
                  simp only [Act.put, List.setIfInBounds_toArray, List.set_cons_zero, List.set_cons_succ]
                  refine reg_two 9 14 (by kernel_rfl) rfl rfl ?_ ?_
                  · as_aux_lemma =>
                      apply al_make (hM := hM) (n := km) (ht := sl22); rfl; (first | exact want_none rfl | exact want_some rfl rfl rfl rfl); rfl; rfl; omega; omega
                      intro gm w5 hM1
                      clear hM
                      obtain ⟨B4, hl4, hM2, hbk⟩ := parkedB (n := km) (cc := km) hM1 (List.replicate km (0 : UInt8)) (by simp) (Nat.le_refl _) (fun j hj => by rw [show (Value.int .u8 0).cells = #[Value.int .u8 0] from rfl, madeCells_one, Nat.mul_one, tab_get hj, getD_zeros]; rfl)
                      clear hM1
                      have hM := hM2
                      clear hM2
                      clear hS
                      have hS : Mem B w5 [] [⟨gO, #[.int .i64 ok_, .int .i64 op_, .int .i64 on_], 45, (0, 0)⟩, ⟨ga, ca, 41, (0, 0)⟩] := (hl4.mem hM).swap.none.swap
                      refine ⟨hS, ?_⟩
                      simp only [Act.put, List.setIfInBounds_toArray, List.set_cons_zero, List.set_cons_succ]
                      refine reg_two 10 14 (by kernel_rfl) rfl rfl ?_ ?_
                      · as_aux_lemma =>
                          refine call_fn rfl (by (first | exact want_none rfl | exact want_some rfl rfl rfl rfl)) cf22 (cappend (c := ⟨.slice xa L.length xk, L, b⟩) (b' := b ++ List.replicate km (0 : UInt8)) (v := (b.length : Nat)) (v' := (nl : Nat)) hM hc1 (hI1.le hl4) hbk (by simp only [List.length_replicate]; omega) (by simp only [List.length_replicate]; exact hfit.out) rfl rfl (by rw [hnl.out, List.length_append, List.length_replicate])) (by simp only [List.map_toArray, List.map_cons, List.map_nil]; rfl) ?_
                          rintro e w4 ⟨s3, a3, m3, k3, L3, B3, rfl, hl3, hM1, hc3, hI3, hf3, ho3⟩
                          clear hM
                          have hM := hM1
                          clear hM1
                          clear ho3 hf3
                          refine ⟨_, rfl, ?_⟩
                          clear hS
                          have hS : Mem B w4 [] [⟨gO, #[.int .i64 ok_, .int .i64 op_, .int .i64 on_], 45, (0, 0)⟩, ⟨ga, ca, 41, (0, 0)⟩] := ((hl4.trans hl3).mem hM).swap.none.swap
                          refine ⟨hS, ?_⟩
                          simp only [Act.put, List.setIfInBounds_toArray, List.set_cons_zero, List.set_cons_succ]
                          refine reg_free 11 (v := .tuple #[.agg #[.slice a3 m3 k3, .int .i64 (nl : Nat)], .int .i64 0]) rfl (by kernel_rfl) (by kernel_rfl) (by kernel_rfl) (fun _ _ _ h => h) (by (first | exact want_none rfl | exact want_some rfl rfl rfl rfl)) (fun w => by go_simp) hS ?_
                          simp only [Act.put, List.setIfInBounds_toArray, List.set_cons_zero, List.set_cons_succ]
                          refine reg_free 12 (v := .agg #[.slice a3 m3 k3, .int .i64 (nl : Nat)]) rfl (by kernel_rfl) (by kernel_rfl) (by kernel_rfl) (fun _ _ _ h => h) (by (first | exact want_none rfl | exact want_some rfl rfl rfl rfl)) (fun w => by go_simp) hS ?_
                          simp only [Act.put, List.setIfInBounds_toArray, List.set_cons_zero, List.set_cons_succ]
                          refine reg_free 13 (v := .int .i64 0) rfl (by kernel_rfl) (by kernel_rfl) (by kernel_rfl) (fun _ _ _ h => h) (by (first | exact want_none rfl | exact want_some rfl rfl rfl rfl)) (fun w => by go_simp) hS ?_
                          simp only [Act.put, List.setIfInBounds_toArray, List.set_cons_zero, List.set_cons_succ]
                          refine reg_step 14 (by kernel_rfl) rfl ?_
                          apply al_zero (hM := hM); rfl; (first | exact want_none rfl | exact want_some rfl rfl rfl rfl); exact zero41
                          intro gC w5 hM1
                          clear hM
                          dsimp only [Value.cells] at hM1
                          have hM := hM1
                          clear hM1
                          clear hS
                          have hS : Mem B w5 [] [⟨gO, #[.int .i64 ok_, .int .i64 op_, .int .i64 on_], 45, (0, 0)⟩, ⟨ga, ca, 41, (0, 0)⟩] := ((hl4.trans hl3).mem hM).tail.swap.none.swap
                          refine ⟨hS, ?_⟩
                          simp only [Act.put, List.setIfInBounds_toArray, List.set_cons_zero, List.set_cons_succ]
                          refine reg_step 15 (by kernel_rfl) rfl ?_
                          apply st_row (hM := hM); rfl; (first | exact want_none rfl | exact want_some rfl rfl rfl rfl); rfl; (first | (focus (go_simp; done)) | (focus (go_simp; rfl))); (first | exact .head _ _ | exact .tail (.head _ _) | exact .tail (.tail (.head _ _))); rfl; rfl; exact row41
                          intro w6 hM1
                          clear hM
                          have hM := hM1
                          clear hM1
                          clear hS
                          have hS : Mem B w6 [] [⟨gO, #[.int .i64 ok_, .int .i64 op_, .int .i64 on_], 45, (0, 0)⟩, ⟨ga, ca, 41, (0, 0)⟩] := ((hl4.trans hl3).mem hM).tail.swap.none.swap
                          refine ⟨hS, ?_⟩
                          simp only [Act.put, List.setIfInBounds_toArray, List.set_cons_zero, List.set_cons_succ]
                          refine reg_free 16 (v := .int .i64 0) rfl (by kernel_rfl) (by kernel_rfl) (by kernel_rfl) (fun _ _ _ h => h) (by (first | exact want_none rfl | exact want_some rfl rfl rfl rfl)) (fun w => by go_simp) hS ?_
                          simp only [Act.put, List.setIfInBounds_toArray, List.set_cons_zero, List.set_cons_succ]
                          refine reg_done (by kernel_rfl) ?_
                          clear hS
                          go_wp2_with (first | ((with_reducible refine wpl ?_); apply st_at (hM := hM); rfl; (first | exact want_none rfl | exact want_some rfl rfl rfl rfl); rfl; rfl; (first | exact .head _ _ | exact .tail (.head _ _) | exact .tail (.tail (.head _ _)) | exact .tail (.tail (.tail (.head _ _))) | exact .tail (.tail (.tail (.tail (.head _ _))))); (rw [hca.out]; simp only [List.size_toArray, List.length_cons, List.length_nil]; omega); rfl; exact row41; intro w8 hM1; clear hM; have hM := hM1; clear hM1; simp only [Act.put, List.setIfInBounds_toArray, List.set_cons_zero, List.set_cons_succ]) | ((with_reducible refine wpl ?_); apply al_box (hM := hM); rfl; (first | exact want_none rfl | exact want_some rfl rfl rfl rfl); (first | (focus (go_simp; done)) | (focus (go_simp; rfl))); intro gb w1 hM1; clear hM; dsimp only [Value.cells] at hM1; have hM := hM1; clear hM1; simp only [Act.put, List.setIfInBounds_toArray, List.set_cons_zero, List.set_cons_succ]) | ((with_reducible refine wpl ?_); apply al_zero (hM := hM); rfl; (first | exact want_none rfl | exact want_some rfl rfl rfl rfl); (first | exact zero41 | exact zero45); intro gz w1 hM1; clear hM; dsimp only [Value.cells] at hM1; have hM := hM1; clear hM1; simp only [Act.put, List.setIfInBounds_toArray, List.set_cons_zero, List.set_cons_succ]) | ((with_reducible refine wpl ?_); apply ld_row (hM := hM); rfl; (first | exact want_none rfl | exact want_some rfl rfl rfl rfl); rfl; (first | exact .head _ _ | exact .tail (.head _ _) | exact .tail (.tail (.head _ _)) | exact .tail (.tail (.tail (.head _ _))) | exact .tail (.tail (.tail (.tail (.head _ _)))) | exact .tail (.tail (.tail (.tail (.tail (.head _ _)))))); (first | exact row41 | exact row45); simp only [Act.put, List.setIfInBounds_toArray, List.set_cons_zero, List.set_cons_succ]) | ((with_reducible refine wpl ?_); apply st_row (hM := hM); rfl; (first | exact want_none rfl | exact want_some rfl rfl rfl rfl); rfl; (first | (focus (go_simp; done)) | (focus (go_simp; rfl))); (first | exact .head _ _ | exact .tail (.head _ _) | exact .tail (.tail (.head _ _)) | exact .tail (.tail (.tail (.head _ _))) | exact .tail (.tail (.tail (.tail (.head _ _)))) | exact .tail (.tail (.tail (.tail (.tail (.head _ _)))))); rfl; rfl; (first | exact row41 | exact row45); intro w1 hM1; clear hM; (try simp only [List.setIfInBounds_toArray, List.set_cons_zero, List.set_cons_succ] at hM1); (try rw [tab_setInt] at hM1);  have hM := hM1; clear hM1; simp only [Act.put, List.setIfInBounds_toArray, List.set_cons_zero, List.set_cons_succ]) | ((with_reducible refine wpl ?_); apply ld_one (hM := hM); rfl; (first | exact want_none rfl | exact want_some rfl rfl rfl rfl); rfl; (first | exact .head _ _ | exact .tail (.head _ _) | exact .tail (.tail (.head _ _)) | exact .tail (.tail (.tail (.head _ _))) | exact .tail (.tail (.tail (.tail (.head _ _)))) | exact .tail (.tail (.tail (.tail (.tail (.head _ _)))))); (first | (focus (simp only [List.getElem?_toArray, List.getElem?_cons_zero, List.getElem?_cons_succ]; rfl)) | exact tab_get (by omega) | rfl); (first | exact one3 | exact one39); simp only [Act.put, List.setIfInBounds_toArray, List.set_cons_zero, List.set_cons_succ]) | ((with_reducible refine wpl ?_); apply st_cell (hM := hM); rfl; (first | exact want_none rfl | exact want_some rfl rfl rfl rfl); rfl; (first | (focus (go_simp; done)) | (focus (go_simp; rfl))); (first | exact .head _ _ | exact .tail (.head _ _) | exact .tail (.tail (.head _ _)) | exact .tail (.tail (.tail (.head _ _))) | exact .tail (.tail (.tail (.tail (.head _ _)))) | exact .tail (.tail (.tail (.tail (.tail (.head _ _)))))); (first | (focus (simp; done)) | (focus (rw [tab_size]; omega))); rfl; (first | exact one3 | exact one39); intro w1 hM1; clear hM; (try simp only [List.setIfInBounds_toArray, List.set_cons_zero, List.set_cons_succ] at hM1); (try rw [tab_setInt] at hM1);  have hM := hM1; clear hM1; simp only [Act.put, List.setIfInBounds_toArray, List.set_cons_zero, List.set_cons_succ]))
                          have hTa2 := tb_set (f := ctc) (t := 41) (k := 2) (g := ga) (x := ⟨.slice a3 m3 k3, L3, b ++ List.replicate km (0 : UInt8)⟩) (fun _ => rfl) hca.out hacl han.out hcea.out hian
                          have e1 : ctc ⟨.slice a3 m3 k3, L3, b ++ List.replicate km (0 : UInt8)⟩ = [.slice a3 m3 k3, .int .i64 (nl : Nat)] := by
                            unfold ctc
                            simp only [List.length_append, List.length_replicate]
                            rw [hnl.out]
                          rw [e1] at hTa2
                          have hsp := set_perm hics (⟨.slice a3 m3 k3, L3, b ++ List.replicate km (0 : UInt8)⟩ : Ct)
                          have hM2 := hM.sub (.cons (.head _ _) (.nil _))
                          go_meet
                          refine ⟨s3, B3, cs.set i ⟨.slice a3 m3 k3, L3, b ++ List.replicate km (0 : UInt8)⟩, _, _, rfl, (hle.trans hl4).trans hl3, hc3.perm hsp.symm, hI3.perm hsp.symm, hid_ (by rw [List.length_set]; have := hjl.out; omega), hid_ (fun d hd => ?_), hTa2, hM2⟩
                          rcases List.mem_or_eq_of_mem_set hd with hd | rfl
                          · have := hdl.out d hd; omega
                          · simp only [List.length_append, List.length_replicate]; omega
                      · as_aux_lemma =>
                          apply al_zero (hM := hM); rfl; (first | exact want_none rfl | exact want_some rfl rfl rfl rfl); exact zero41
                          intro gC w5 hM1
                          clear hM
                          dsimp only [Value.cells] at hM1
                          have hM := hM1
                          clear hM1
                          clear hS
                          have hS : Mem B w5 [] [⟨gO, #[.int .i64 ok_, .int .i64 op_, .int .i64 on_], 45, (0, 0)⟩, ⟨ga, ca, 41, (0, 0)⟩] := (hl4.mem hM).tail.swap.none.swap
                          refine ⟨hS, ?_⟩
                          simp only [Act.put, List.setIfInBounds_toArray, List.set_cons_zero, List.set_cons_succ]
                          refine reg_step 10 (by kernel_rfl) rfl ?_
                          refine call_fn rfl (by (first | exact want_none rfl | exact want_some rfl rfl rfl rfl)) cf22 (cappend (c := ⟨.slice xa L.length xk, L, b⟩) (b' := b ++ List.replicate km (0 : UInt8)) (v := (b.length : Nat)) (v' := (nl : Nat)) hM hc1 (hI1.le hl4) hbk (by simp only [List.length_replicate]; omega) (by simp only [List.length_replicate]; exact hfit.out) rfl rfl (by rw [hnl.out, List.length_append, List.length_replicate])) (by simp only [List.map_toArray, List.map_cons, List.map_nil]; rfl) ?_
                          rintro e w4 ⟨s3, a3, m3, k3, L3, B3, rfl, hl3, hM1, hc3, hI3, hf3, ho3⟩
                          clear hM
                          have hM := hM1
                          clear hM1
                          clear ho3 hf3
                          refine ⟨_, rfl, ?_⟩
                          clear hS
                          have hS : Mem B w4 [] [⟨gO, #[.int .i64 ok_, .int .i64 op_, .int .i64 on_], 45, (0, 0)⟩, ⟨ga, ca, 41, (0, 0)⟩] := ((hl4.trans hl3).mem hM).tail.swap.none.swap
                          refine ⟨hS, ?_⟩
                          simp only [Act.put, List.setIfInBounds_toArray, List.set_cons_zero, List.set_cons_succ]
                          refine reg_free 11 (v := .tuple #[.agg #[.slice a3 m3 k3, .int .i64 (nl : Nat)], .int .i64 0]) rfl (by kernel_rfl) (by kernel_rfl) (by kernel_rfl) (fun _ _ _ h => h) (by (first | exact want_none rfl | exact want_some rfl rfl rfl rfl)) (fun w => by go_simp) hS ?_
                          simp only [Act.put, List.setIfInBounds_toArray, List.set_cons_zero, List.set_cons_succ]
                          refine reg_free 12 (v := .agg #[.slice a3 m3 k3, .int .i64 (nl : Nat)]) rfl (by kernel_rfl) (by kernel_rfl) (by kernel_rfl) (fun _ _ _ h => h) (by (first | exact want_none rfl | exact want_some rfl rfl rfl rfl)) (fun w => by go_simp) hS ?_
                          simp only [Act.put, List.setIfInBounds_toArray, List.set_cons_zero, List.set_cons_succ]
                          refine reg_free 13 (v := .int .i64 0) rfl (by kernel_rfl) (by kernel_rfl) (by kernel_rfl) (fun _ _ _ h => h) (by (first | exact want_none rfl | exact want_some rfl rfl rfl rfl)) (fun w => by go_simp) hS ?_
                          simp only [Act.put, List.setIfInBounds_toArray, List.set_cons_zero, List.set_cons_succ]
                          refine reg_step 15 (by kernel_rfl) rfl ?_
                          apply st_row (hM := hM); rfl; (first | exact want_none rfl | exact want_some rfl rfl rfl rfl); rfl; (first | (focus (go_simp; done)) | (focus (go_simp; rfl))); (first | exact .head _ _ | exact .tail (.head _ _) | exact .tail (.tail (.head _ _))); rfl; rfl; exact row41
                          intro w6 hM1
                          clear hM
                          have hM := hM1
                          clear hM1
                          clear hS
                          have hS : Mem B w6 [] [⟨gO, #[.int .i64 ok_, .int .i64 op_, .int .i64 on_], 45, (0, 0)⟩, ⟨ga, ca, 41, (0, 0)⟩] := ((hl4.trans hl3).mem hM).tail.swap.none.swap
                          refine ⟨hS, ?_⟩
                          simp only [Act.put, List.setIfInBounds_toArray, List.set_cons_zero, List.set_cons_succ]
                          refine reg_free 16 (v := .int .i64 0) rfl (by kernel_rfl) (by kernel_rfl) (by kernel_rfl) (fun _ _ _ h => h) (by (first | exact want_none rfl | exact want_some rfl rfl rfl rfl)) (fun w => by go_simp) hS ?_
                          simp only [Act.put, List.setIfInBounds_toArray, List.set_cons_zero, List.set_cons_succ]
                          refine reg_done (by kernel_rfl) ?_
                          clear hS
                          go_wp2_with (first | ((with_reducible refine wpl ?_); apply st_at (hM := hM); rfl; (first | exact want_none rfl | exact want_some rfl rfl rfl rfl); rfl; rfl; (first | exact .head _ _ | exact .tail (.head _ _) | exact .tail (.tail (.head _ _)) | exact .tail (.tail (.tail (.head _ _))) | exact .tail (.tail (.tail (.tail (.head _ _))))); (rw [hca.out]; simp only [List.size_toArray, List.length_cons, List.length_nil]; omega); rfl; exact row41; intro w8 hM1; clear hM; have hM := hM1; clear hM1; simp only [Act.put, List.setIfInBounds_toArray, List.set_cons_zero, List.set_cons_succ]) | ((with_reducible refine wpl ?_); apply al_box (hM := hM); rfl; (first | exact want_none rfl | exact want_some rfl rfl rfl rfl); (first | (focus (go_simp; done)) | (focus (go_simp; rfl))); intro gb w1 hM1; clear hM; dsimp only [Value.cells] at hM1; have hM := hM1; clear hM1; simp only [Act.put, List.setIfInBounds_toArray, List.set_cons_zero, List.set_cons_succ]) | ((with_reducible refine wpl ?_); apply al_zero (hM := hM); rfl; (first | exact want_none rfl | exact want_some rfl rfl rfl rfl); (first | exact zero41 | exact zero45); intro gz w1 hM1; clear hM; dsimp only [Value.cells] at hM1; have hM := hM1; clear hM1; simp only [Act.put, List.setIfInBounds_toArray, List.set_cons_zero, List.set_cons_succ]) | ((with_reducible refine wpl ?_); apply ld_row (hM := hM); rfl; (first | exact want_none rfl | exact want_some rfl rfl rfl rfl); rfl; (first | exact .head _ _ | exact .tail (.head _ _) | exact .tail (.tail (.head _ _)) | exact .tail (.tail (.tail (.head _ _))) | exact .tail (.tail (.tail (.tail (.head _ _)))) | exact .tail (.tail (.tail (.tail (.tail (.head _ _)))))); (first | exact row41 | exact row45); simp only [Act.put, List.setIfInBounds_toArray, List.set_cons_zero, List.set_cons_succ]) | ((with_reducible refine wpl ?_); apply st_row (hM := hM); rfl; (first | exact want_none rfl | exact want_some rfl rfl rfl rfl); rfl; (first | (focus (go_simp; done)) | (focus (go_simp; rfl))); (first | exact .head _ _ | exact .tail (.head _ _) | exact .tail (.tail (.head _ _)) | exact .tail (.tail (.tail (.head _ _))) | exact .tail (.tail (.tail (.tail (.head _ _)))) | exact .tail (.tail (.tail (.tail (.tail (.head _ _)))))); rfl; rfl; (first | exact row41 | exact row45); intro w1 hM1; clear hM; (try simp only [List.setIfInBounds_toArray, List.set_cons_zero, List.set_cons_succ] at hM1); (try rw [tab_setInt] at hM1);  have hM := hM1; clear hM1; simp only [Act.put, List.setIfInBounds_toArray, List.set_cons_zero, List.set_cons_succ]) | ((with_reducible refine wpl ?_); apply ld_one (hM := hM); rfl; (first | exact want_none rfl | exact want_some rfl rfl rfl rfl); rfl; (first | exact .head _ _ | exact .tail (.head _ _) | exact .tail (.tail (.head _ _)) | exact .tail (.tail (.tail (.head _ _))) | exact .tail (.tail (.tail (.tail (.head _ _)))) | exact .tail (.tail (.tail (.tail (.tail (.head _ _)))))); (first | (focus (simp only [List.getElem?_toArray, List.getElem?_cons_zero, List.getElem?_cons_succ]; rfl)) | exact tab_get (by omega) | rfl); (first | exact one3 | exact one39); simp only [Act.put, List.setIfInBounds_toArray, List.set_cons_zero, List.set_cons_succ]) | ((with_reducible refine wpl ?_); apply st_cell (hM := hM); rfl; (first | exact want_none rfl | exact want_some rfl rfl rfl rfl); rfl; (first | (focus (go_simp; done)) | (focus (go_simp; rfl))); (first | exact .head _ _ | exact .tail (.head _ _) | exact .tail (.tail (.head _ _)) | exact .tail (.tail (.tail (.head _ _))) | exact .tail (.tail (.tail (.tail (.head _ _)))) | exact .tail (.tail (.tail (.tail (.tail (.head _ _)))))); (first | (focus (simp; done)) | (focus (rw [tab_size]; omega))); rfl; (first | exact one3 | exact one39); intro w1 hM1; clear hM; (try simp only [List.setIfInBounds_toArray, List.set_cons_zero, List.set_cons_succ] at hM1); (try rw [tab_setInt] at hM1);  have hM := hM1; clear hM1; simp only [Act.put, List.setIfInBounds_toArray, List.set_cons_zero, List.set_cons_succ]))
                          have hTa2 := tb_set (f := ctc) (t := 41) (k := 2) (g := ga) (x := ⟨.slice a3 m3 k3, L3, b ++ List.replicate km (0 : UInt8)⟩) (fun _ => rfl) hca.out hacl han.out hcea.out hian
                          have e1 : ctc ⟨.slice a3 m3 k3, L3, b ++ List.replicate km (0 : UInt8)⟩ = [.slice a3 m3 k3, .int .i64 (nl : Nat)] := by
                            unfold ctc
                            simp only [List.length_append, List.length_replicate]
                            rw [hnl.out]
                          rw [e1] at hTa2
                          have hsp := set_perm hics (⟨.slice a3 m3 k3, L3, b ++ List.replicate km (0 : UInt8)⟩ : Ct)
                          have hM2 := hM.sub (.cons (.head _ _) (.nil _))
                          go_meet
                          refine ⟨s3, B3, cs.set i ⟨.slice a3 m3 k3, L3, b ++ List.replicate km (0 : UInt8)⟩, _, _, rfl, (hle.trans hl4).trans hl3, hc3.perm hsp.symm, hI3.perm hsp.symm, hid_ (by rw [List.length_set]; have := hjl.out; omega), hid_ (fun d hd => ?_), hTa2, hM2⟩
                          rcases List.mem_or_eq_of_mem_set hd with hd | rfl
                          · have := hdl.out d hd; omega
                          · simp only [List.length_append, List.length_replicate]; omega
                  · as_aux_lemma =>
                      apply al_zero (hM := hM); rfl; (first | exact want_none rfl | exact want_some rfl rfl rfl rfl); exact zero41
                      intro gC w5 hM1
                      clear hM
                      dsimp only [Value.cells] at hM1
                      have hM := hM1
                      clear hM1
                      clear hS
                      have hS : Mem B w5 [] [⟨gO, #[.int .i64 ok_, .int .i64 op_, .int .i64 on_], 45, (0, 0)⟩, ⟨ga, ca, 41, (0, 0)⟩] := hM.tail.swap.none.swap
                      refine ⟨hS, ?_⟩
                      simp only [Act.put, List.setIfInBounds_toArray, List.set_cons_zero, List.set_cons_succ]
                      refine reg_step 9 (by kernel_rfl) rfl ?_
                      apply al_make (hM := hM) (n := km) (ht := sl22); rfl; (first | exact want_none rfl | exact want_some rfl rfl rfl rfl); rfl; rfl; omega; omega
                      intro gm w5 hM1
                      clear hM
                      obtain ⟨B4, hl4, hM2, hbk⟩ := parkedB (n := km) (cc := km) hM1 (List.replicate km (0 : UInt8)) (by simp) (Nat.le_refl _) (fun j hj => by rw [show (Value.int .u8 0).cells = #[Value.int .u8 0] from rfl, madeCells_one, Nat.mul_one, tab_get hj, getD_zeros]; rfl)
                      clear hM1
                      have hM := hM2
                      clear hM2
                      clear hS
                      have hS : Mem B w5 [] [⟨gO, #[.int .i64 ok_, .int .i64 op_, .int .i64 on_], 45, (0, 0)⟩, ⟨ga, ca, 41, (0, 0)⟩] := (hl4.mem hM).tail.swap.none.swap
                      refine ⟨hS, ?_⟩
                      simp only [Act.put, List.setIfInBounds_toArray, List.set_cons_zero, List.set_cons_succ]
                      refine reg_step 10 (by kernel_rfl) rfl ?_
                      refine call_fn rfl (by (first | exact want_none rfl | exact want_some rfl rfl rfl rfl)) cf22 (cappend (c := ⟨.slice xa L.length xk, L, b⟩) (b' := b ++ List.replicate km (0 : UInt8)) (v := (b.length : Nat)) (v' := (nl : Nat)) hM hc1 (hI1.le hl4) hbk (by simp only [List.length_replicate]; omega) (by simp only [List.length_replicate]; exact hfit.out) rfl rfl (by rw [hnl.out, List.length_append, List.length_replicate])) (by simp only [List.map_toArray, List.map_cons, List.map_nil]; rfl) ?_
                      rintro e w4 ⟨s3, a3, m3, k3, L3, B3, rfl, hl3, hM1, hc3, hI3, hf3, ho3⟩
                      clear hM
                      have hM := hM1
                      clear hM1
                      clear ho3 hf3
                      refine ⟨_, rfl, ?_⟩
                      clear hS
                      have hS : Mem B w4 [] [⟨gO, #[.int .i64 ok_, .int .i64 op_, .int .i64 on_], 45, (0, 0)⟩, ⟨ga, ca, 41, (0, 0)⟩] := ((hl4.trans hl3).mem hM).tail.swap.none.swap
                      refine ⟨hS, ?_⟩
                      simp only [Act.put, List.setIfInBounds_toArray, List.set_cons_zero, List.set_cons_succ]
                      refine reg_free 11 (v := .tuple #[.agg #[.slice a3 m3 k3, .int .i64 (nl : Nat)], .int .i64 0]) rfl (by kernel_rfl) (by kernel_rfl) (by kernel_rfl) (fun _ _ _ h => h) (by (first | exact want_none rfl | exact want_some rfl rfl rfl rfl)) (fun w => by go_simp) hS ?_
                      simp only [Act.put, List.setIfInBounds_toArray, List.set_cons_zero, List.set_cons_succ]
                      refine reg_free 12 (v := .agg #[.slice a3 m3 k3, .int .i64 (nl : Nat)]) rfl (by kernel_rfl) (by kernel_rfl) (by kernel_rfl) (fun _ _ _ h => h) (by (first | exact want_none rfl | exact want_some rfl rfl rfl rfl)) (fun w => by go_simp) hS ?_
                      simp only [Act.put, List.setIfInBounds_toArray, List.set_cons_zero, List.set_cons_succ]
                      refine reg_free 13 (v := .int .i64 0) rfl (by kernel_rfl) (by kernel_rfl) (by kernel_rfl) (fun _ _ _ h => h) (by (first | exact want_none rfl | exact want_some rfl rfl rfl rfl)) (fun w => by go_simp) hS ?_
                      simp only [Act.put, List.setIfInBounds_toArray, List.set_cons_zero, List.set_cons_succ]
                      refine reg_step 15 (by kernel_rfl) rfl ?_
                      apply st_row (hM := hM); rfl; (first | exact want_none rfl | exact want_some rfl rfl rfl rfl); rfl; (first | (focus (go_simp; done)) | (focus (go_simp; rfl))); (first | exact .head _ _ | exact .tail (.head _ _) | exact .tail (.tail (.head _ _))); rfl; rfl; exact row41
                      intro w6 hM1
                      clear hM
                      have hM := hM1
                      clear hM1
                      clear hS
                      have hS : Mem B w6 [] [⟨gO, #[.int .i64 ok_, .int .i64 op_, .int .i64 on_], 45, (0, 0)⟩, ⟨ga, ca, 41, (0, 0)⟩] := ((hl4.trans hl3).mem hM).tail.swap.none.swap
                      refine ⟨hS, ?_⟩
                      simp only [Act.put, List.setIfInBounds_toArray, List.set_cons_zero, List.set_cons_succ]
                      refine reg_free 16 (v := .int .i64 0) rfl (by kernel_rfl) (by kernel_rfl) (by kernel_rfl) (fun _ _ _ h => h) (by (first | exact want_none rfl | exact want_some rfl rfl rfl rfl)) (fun w => by go_simp) hS ?_
                      simp only [Act.put, List.setIfInBounds_toArray, List.set_cons_zero, List.set_cons_succ]
                      refine reg_done (by kernel_rfl) ?_
                      clear hS
                      go_wp2_with (first | ((with_reducible refine wpl ?_); apply st_at (hM := hM); rfl; (first | exact want_none rfl | exact want_some rfl rfl rfl rfl); rfl; rfl; (first | exact .head _ _ | exact .tail (.head _ _) | exact .tail (.tail (.head _ _)) | exact .tail (.tail (.tail (.head _ _))) | exact .tail (.tail (.tail (.tail (.head _ _))))); (rw [hca.out]; simp only [List.size_toArray, List.length_cons, List.length_nil]; omega); rfl; exact row41; intro w8 hM1; clear hM; have hM := hM1; clear hM1; simp only [Act.put, List.setIfInBounds_toArray, List.set_cons_zero, List.set_cons_succ]) | ((with_reducible refine wpl ?_); apply al_box (hM := hM); rfl; (first | exact want_none rfl | exact want_some rfl rfl rfl rfl); (first | (focus (go_simp; done)) | (focus (go_simp; rfl))); intro gb w1 hM1; clear hM; dsimp only [Value.cells] at hM1; have hM := hM1; clear hM1; simp only [Act.put, List.setIfInBounds_toArray, List.set_cons_zero, List.set_cons_succ]) | ((with_reducible refine wpl ?_); apply al_zero (hM := hM); rfl; (first | exact want_none rfl | exact want_some rfl rfl rfl rfl); (first | exact zero41 | exact zero45); intro gz w1 hM1; clear hM; dsimp only [Value.cells] at hM1; have hM := hM1; clear hM1; simp only [Act.put, List.setIfInBounds_toArray, List.set_cons_zero, List.set_cons_succ]) | ((with_reducible refine wpl ?_); apply ld_row (hM := hM); rfl; (first | exact want_none rfl | exact want_some rfl rfl rfl rfl); rfl; (first | exact .head _ _ | exact .tail (.head _ _) | exact .tail (.tail (.head _ _)) | exact .tail (.tail (.tail (.head _ _))) | exact .tail (.tail (.tail (.tail (.head _ _)))) | exact .tail (.tail (.tail (.tail (.tail (.head _ _)))))); (first | exact row41 | exact row45); simp only [Act.put, List.setIfInBounds_toArray, List.set_cons_zero, List.set_cons_succ]) | ((with_reducible refine wpl ?_); apply st_row (hM := hM); rfl; (first | exact want_none rfl | exact want_some rfl rfl rfl rfl); rfl; (first | (focus (go_simp; done)) | (focus (go_simp; rfl))); (first | exact .head _ _ | exact .tail (.head _ _) | exact .tail (.tail (.head _ _)) | exact .tail (.tail (.tail (.head _ _))) | exact .tail (.tail (.tail (.tail (.head _ _)))) | exact .tail (.tail (.tail (.tail (.tail (.head _ _)))))); rfl; rfl; (first | exact row41 | exact row45); intro w1 hM1; clear hM; (try simp only [List.setIfInBounds_toArray, List.set_cons_zero, List.set_cons_succ] at hM1); (try rw [tab_setInt] at hM1);  have hM := hM1; clear hM1; simp only [Act.put, List.setIfInBounds_toArray, List.set_cons_zero, List.set_cons_succ]) | ((with_reducible refine wpl ?_); apply ld_one (hM := hM); rfl; (first | exact want_none rfl | exact want_some rfl rfl rfl rfl); rfl; (first | exact .head _ _ | exact .tail (.head _ _) | exact .tail (.tail (.head _ _)) | exact .tail (.tail (.tail (.head _ _))) | exact .tail (.tail (.tail (.tail (.head _ _)))) | exact .tail (.tail (.tail (.tail (.tail (.head _ _)))))); (first | (focus (simp only [List.getElem?_toArray, List.getElem?_cons_zero, List.getElem?_cons_succ]; rfl)) | exact tab_get (by omega) | rfl); (first | exact one3 | exact one39); simp only [Act.put, List.setIfInBounds_toArray, List.set_cons_zero, List.set_cons_succ]) | ((with_reducible refine wpl ?_); apply st_cell (hM := hM); rfl; (first | exact want_none rfl | exact want_some rfl rfl rfl rfl); rfl; (first | (focus (go_simp; done)) | (focus (go_simp; rfl))); (first | exact .head _ _ | exact .tail (.head _ _) | exact .tail (.tail (.head _ _)) | exact .tail (.tail (.tail (.head _ _))) | exact .tail (.tail (.tail (.tail (.head _ _)))) | exact .tail (.tail (.tail (.tail (.tail (.head _ _)))))); (first | (focus (simp; done)) | (focus (rw [tab_size]; omega))); rfl; (first | exact one3 | exact one39); intro w1 hM1; clear hM; (try simp only [List.setIfInBounds_toArray, List.set_cons_zero, List.set_cons_succ] at hM1); (try rw [tab_setInt] at hM1);  have hM := hM1; clear hM1; simp only [Act.put, List.setIfInBounds_toArray, List.set_cons_zero, List.set_cons_succ]))
                      have hTa2 := tb_set (f := ctc) (t := 41) (k := 2) (g := ga) (x := ⟨.slice a3 m3 k3, L3, b ++ List.replicate km (0 : UInt8)⟩) (fun _ => rfl) hca.out hacl han.out hcea.out hian
                      have e1 : ctc ⟨.slice a3 m3 k3, L3, b ++ List.replicate km (0 : UInt8)⟩ = [.slice a3 m3 k3, .int .i64 (nl : Nat)] := by
                        unfold ctc
                        simp only [List.length_append, List.length_replicate]
                        rw [hnl.out]
                      rw [e1] at hTa2
                      have hsp := set_perm hics (⟨.slice a3 m3 k3, L3, b ++ List.replicate km (0 : UInt8)⟩ : Ct)
                      have hM2 := hM.sub (.cons (.head _ _) (.nil _))
                      go_meet
                      refine ⟨s3, B3, cs.set i ⟨.slice a3 m3 k3, L3, b ++ List.replicate km (0 : UInt8)⟩, _, _, rfl, (hle.trans hl4).trans hl3, hc3.perm hsp.symm, hI3.perm hsp.symm, hid_ (by rw [List.length_set]; have := hjl.out; omega), hid_ (fun d hd => ?_), hTa2, hM2⟩
                      rcases List.mem_or_eq_of_mem_set hd with hd | rfl
                      · have := hdl.out d hd; omega
                      · simp only [List.length_append, List.length_replicate]; omega
              · replace hfit := hid_ (show ss.m < more ss.H L b.length km by omega)
                as_aux_lemma =>
                  go_wp2_with (first | ((with_reducible refine wpl ?_); apply al_box (hM := hM); rfl; (first | exact want_none rfl | exact want_some rfl rfl rfl rfl); (first | (focus (go_simp; done)) | (focus (go_simp; rfl))); intro gb w1 hM1; clear hM; dsimp only [Value.cells] at hM1; have hM := hM1; clear hM1; simp only [Act.put, List.setIfInBounds_toArray, List.set_cons_zero, List.set_cons_succ]) | ((with_reducible refine wpl ?_); apply al_zero (hM := hM); rfl; (first | exact want_none rfl | exact want_some rfl rfl rfl rfl); (first | exact zero41 | exact zero45); intro gz w1 hM1; clear hM; dsimp only [Value.cells] at hM1; have hM := hM1; clear hM1; simp only [Act.put, List.setIfInBounds_toArray, List.set_cons_zero, List.set_cons_succ]) | ((with_reducible refine wpl ?_); apply ld_row (hM := hM); rfl; (first | exact want_none rfl | exact want_some rfl rfl rfl rfl); rfl; (first | exact .head _ _ | exact .tail (.head _ _) | exact .tail (.tail (.head _ _)) | exact .tail (.tail (.tail (.head _ _))) | exact .tail (.tail (.tail (.tail (.head _ _)))) | exact .tail (.tail (.tail (.tail (.tail (.head _ _)))))); (first | exact row41 | exact row45); simp only [Act.put, List.setIfInBounds_toArray, List.set_cons_zero, List.set_cons_succ]) | ((with_reducible refine wpl ?_); apply st_row (hM := hM); rfl; (first | exact want_none rfl | exact want_some rfl rfl rfl rfl); rfl; (first | (focus (go_simp; done)) | (focus (go_simp; rfl))); (first | exact .head _ _ | exact .tail (.head _ _) | exact .tail (.tail (.head _ _)) | exact .tail (.tail (.tail (.head _ _))) | exact .tail (.tail (.tail (.tail (.head _ _)))) | exact .tail (.tail (.tail (.tail (.tail (.head _ _)))))); rfl; rfl; (first | exact row41 | exact row45); intro w1 hM1; clear hM; (try simp only [List.setIfInBounds_toArray, List.set_cons_zero, List.set_cons_succ] at hM1); (try rw [tab_setInt] at hM1);  have hM := hM1; clear hM1; simp only [Act.put, List.setIfInBounds_toArray, List.set_cons_zero, List.set_cons_succ]) | ((with_reducible refine wpl ?_); apply ld_one (hM := hM); rfl; (first | exact want_none rfl | exact want_some rfl rfl rfl rfl); rfl; (first | exact .head _ _ | exact .tail (.head _ _) | exact .tail (.tail (.head _ _)) | exact .tail (.tail (.tail (.head _ _))) | exact .tail (.tail (.tail (.tail (.head _ _)))) | exact .tail (.tail (.tail (.tail (.tail (.head _ _)))))); (first | (focus (simp only [List.getElem?_toArray, List.getElem?_cons_zero, List.getElem?_cons_succ]; rfl)) | exact tab_get (by omega) | rfl); (first | exact one3 | exact one39); simp only [Act.put, List.setIfInBounds_toArray, List.set_cons_zero, List.set_cons_succ]) | ((with_reducible refine wpl ?_); apply st_cell (hM := hM); rfl; (first | exact want_none rfl | exact want_some rfl rfl rfl rfl); rfl; (first | (focus (go_simp; done)) | (focus (go_simp; rfl))); (first | exact .head _ _ | exact .tail (.head _ _) | exact .tail (.tail (.head _ _)) | exact .tail (.tail (.tail (.head _ _))) | exact .tail (.tail (.tail (.tail (.head _ _)))) | exact .tail (.tail (.tail (.tail (.tail (.head _ _)))))); (first | (focus (simp; done)) | (focus (rw [tab_size]; omega))); rfl; (first | exact one3 | exact one39); intro w1 hM1; clear hM; (try simp only [List.setIfInBounds_toArray, List.set_cons_zero, List.set_cons_succ] at hM1); (try rw [tab_setInt] at hM1);  have hM := hM1; clear hM1; simp only [Act.put, List.setIfInBounds_toArray, List.set_cons_zero, List.set_cons_succ]))
                  refine reg_begin (fun w' => Mem B w' [] [⟨gO, #[.int .i64 ok_, .int .i64 op_, .int .i64 on_], 45, (0, 0)⟩, ⟨ga, ca, 41, (0, 0)⟩]) (by kernel_rfl) hM (fun wd hMd => ?_)
                  clear hM
                  have hM := hMd
                  clear hMd
                  have hS := hM.swap.none.swap
                  refine reg_free 0 (v := own p) rfl (by kernel_rfl) (by kernel_rfl) (by kernel_rfl) (fun _ _ _ h => h) (by (first | exact want_none rfl | exact want_some rfl rfl rfl rfl)) (fun w => by go_simp) hS ?_
                  simp only [Act.put, List.setIfInBounds_toArray, List.set_cons_zero, List.set_cons_succ]
                  refine reg_free 1 (v := .slice (some ⟨ga, 0, none⟩) an ac) rfl (by kernel_rfl) (by kernel_rfl) (by kernel_rfl) (fun _ _ _ h => h) (by (first | exact want_none rfl | exact want_some rfl rfl rfl rfl)) (fun w => by go_simp) hS ?_
                  simp only [Act.put, List.setIfInBounds_toArray, List.set_cons_zero, List.set_cons_succ]
                  refine reg_free 2 (v := .int .i64 (i : Nat)) rfl (by kernel_rfl) (by kernel_rfl) (by kernel_rfl) (fun _ _ _ h => h) (by (first | exact want_none rfl | exact want_some rfl rfl rfl rfl)) (fun w => by go_simp) hS ?_
                  simp only [Act.put, List.setIfInBounds_toArray, List.set_cons_zero, List.set_cons_succ]
                  refine reg_free 3 (v := .pointer (some ⟨ga, i * 2, none⟩)) rfl (by kernel_rfl) (by kernel_rfl) (by kernel_rfl) (fun _ _ _ h => h) (by (first | exact want_none rfl | exact want_some rfl rfl rfl rfl)) (fun w => by go_simp) hS ?_
                  simp only [Act.put, List.setIfInBounds_toArray, List.set_cons_zero, List.set_cons_succ]
                  refine rg_row 4 [.slice xa L.length xk, .int .i64 (b.length : Nat)] rfl (by kernel_rfl) (by kernel_rfl) (by kernel_rfl) (fun _ _ _ h => h) (by (first | exact want_none rfl | exact want_some rfl rfl rfl rfl)) rfl rfl (fun w' h' => h'.at_off (.tail (.head _ _)) _ hela.out) row41 hS ?_
                  simp only [Act.put, List.setIfInBounds_toArray, List.set_cons_zero, List.set_cons_succ]
                  refine reg_free 5 (v := .pointer (some ⟨gO, 2, none⟩)) rfl (by kernel_rfl) (by kernel_rfl) (by kernel_rfl) (fun _ _ _ h => h) (by (first | exact want_none rfl | exact want_some rfl rfl rfl rfl)) (fun w => by go_simp) hS ?_
                  simp only [Act.put, List.setIfInBounds_toArray, List.set_cons_zero, List.set_cons_succ]
                  refine rg_one 6 (v := .int .i64 on_) rfl (by kernel_rfl) (by kernel_rfl) (by kernel_rfl) (fun _ _ _ h => h) (by (first | exact want_none rfl | exact want_some rfl rfl rfl rfl)) rfl rfl (fun w' h' => (h'.cell (.head _ _) 2).trans rfl) one3 hS ?_
                  simp only [Act.put, List.setIfInBounds_toArray, List.set_cons_zero, List.set_cons_succ]
                  refine reg_free 7 (v := .int .i64 mn) rfl (by kernel_rfl) (by kernel_rfl) (by kernel_rfl) (fun _ _ _ h => h) (by (first | exact want_none rfl | exact want_some rfl rfl rfl rfl)) (fun w => by exact run_mn w rfl rfl rfl hmn.out) hS ?_
                  simp only [Act.put, List.setIfInBounds_toArray, List.set_cons_zero, List.set_cons_succ]
                  refine reg_free 8 (v := .int .i64 (km : Nat)) rfl (by kernel_rfl) (by kernel_rfl) (by kernel_rfl) (fun _ _ _ h => h) (by (first | exact want_none rfl | exact want_some rfl rfl rfl rfl)) (fun w => by exact run_mx0 w rfl rfl rfl hkm.out) hS ?_
                  simp only [Act.put, List.setIfInBounds_toArray, List.set_cons_zero, List.set_cons_succ]
                  refine reg_two 9 14 (by kernel_rfl) rfl rfl ?_ ?_
                  · as_aux_lemma =>
                      apply al_make (hM := hM) (n := km) (ht := sl22); rfl; (first | exact want_none rfl | exact want_some rfl rfl rfl rfl); rfl; rfl; omega; omega
                      intro gm w5 hM1
                      clear hM
                      obtain ⟨B4, hl4, hM2, hbk⟩ := parkedB (n := km) (cc := km) hM1 (List.replicate km (0 : UInt8)) (by simp) (Nat.le_refl _) (fun j hj => by rw [show (Value.int .u8 0).cells = #[Value.int .u8 0] from rfl, madeCells_one, Nat.mul_one, tab_get hj, getD_zeros]; rfl)
                      clear hM1
                      have hM := hM2
                      clear hM2
                      clear hS
                      have hS : Mem B w5 [] [⟨gO, #[.int .i64 ok_, .int .i64 op_, .int .i64 on_], 45, (0, 0)⟩, ⟨ga, ca, 41, (0, 0)⟩] := (hl4.mem hM).swap.none.swap
                      refine ⟨hS, ?_⟩
                      simp only [Act.put, List.setIfInBounds_toArray, List.set_cons_zero, List.set_cons_succ]
                      refine reg_two 10 14 (by kernel_rfl) rfl rfl ?_ ?_
                      · as_aux_lemma =>
                          refine call_fn rfl (by (first | exact want_none rfl | exact want_some rfl rfl rfl rfl)) cf22 (cappend_full (c := ⟨.slice xa L.length xk, L, b⟩) (v := (b.length : Nat)) hM hc1 (hI1.le hl4) hbk (by simp only [List.length_replicate]; omega) (by simp only [List.length_replicate]; exact hfit.out) rfl) (by simp only [List.map_toArray, List.map_cons, List.map_nil]; rfl) ?_
                          rintro e w4 ⟨rfl, hM1⟩
                          clear hM
                          have hM := hM1
                          clear hM1
                          refine ⟨_, rfl, ?_⟩
                          clear hS
                          have hS : Mem B w4 [] [⟨gO, #[.int .i64 ok_, .int .i64 op_, .int .i64 on_], 45, (0, 0)⟩, ⟨ga, ca, 41, (0, 0)⟩] := (hl4.mem hM).swap.none.swap
                          refine ⟨hS, ?_⟩
                          simp only [Act.put, List.setIfInBounds_toArray, List.set_cons_zero, List.set_cons_succ]
                          refine reg_free 11 (v := .tuple #[.agg #[.slice xa L.length xk, .int .i64 (b.length : Nat)], .int .i64 3]) rfl (by kernel_rfl) (by kernel_rfl) (by kernel_rfl) (fun _ _ _ h => h) (by (first | exact want_none rfl | exact want_some rfl rfl rfl rfl)) (fun w => by go_simp) hS ?_
                          simp only [Act.put, List.setIfInBounds_toArray, List.set_cons_zero, List.set_cons_succ]
                          refine reg_free 12 (v := .agg #[.slice xa L.length xk, .int .i64 (b.length : Nat)]) rfl (by kernel_rfl) (by kernel_rfl) (by kernel_rfl) (fun _ _ _ h => h) (by (first | exact want_none rfl | exact want_some rfl rfl rfl rfl)) (fun w => by go_simp) hS ?_
                          simp only [Act.put, List.setIfInBounds_toArray, List.set_cons_zero, List.set_cons_succ]
                          refine reg_free 13 (v := .int .i64 3) rfl (by kernel_rfl) (by kernel_rfl) (by kernel_rfl) (fun _ _ _ h => h) (by (first | exact want_none rfl | exact want_some rfl rfl rfl rfl)) (fun w => by go_simp) hS ?_
                          simp only [Act.put, List.setIfInBounds_toArray, List.set_cons_zero, List.set_cons_succ]
                          refine reg_step 14 (by kernel_rfl) rfl ?_
                          apply al_zero (hM := hM); rfl; (first | exact want_none rfl | exact want_some rfl rfl rfl rfl); exact zero41
                          intro gC w5 hM1
                          clear hM
                          dsimp only [Value.cells] at hM1
                          have hM := hM1
                          clear hM1
                          clear hS
                          have hS : Mem B w5 [] [⟨gO, #[.int .i64 ok_, .int .i64 op_, .int .i64 on_], 45, (0, 0)⟩, ⟨ga, ca, 41, (0, 0)⟩] := (hl4.mem hM).tail.swap.none.swap
                          refine ⟨hS, ?_⟩
                          simp only [Act.put, List.setIfInBounds_toArray, List.set_cons_zero, List.set_cons_succ]
                          refine reg_step 15 (by kernel_rfl) rfl ?_
                          apply st_row (hM := hM); rfl; (first | exact want_none rfl | exact want_some rfl rfl rfl rfl); rfl; (first | (focus (go_simp; done)) | (focus (go_simp; rfl))); (first | exact .head _ _ | exact .tail (.head _ _) | exact .tail (.tail (.head _ _))); rfl; rfl; exact row41
                          intro w6 hM1
                          clear hM
                          have hM := hM1
                          clear hM1
                          clear hS
                          have hS : Mem B w6 [] [⟨gO, #[.int .i64 ok_, .int .i64 op_, .int .i64 on_], 45, (0, 0)⟩, ⟨ga, ca, 41, (0, 0)⟩] := (hl4.mem hM).tail.swap.none.swap
                          refine ⟨hS, ?_⟩
                          simp only [Act.put, List.setIfInBounds_toArray, List.set_cons_zero, List.set_cons_succ]
                          refine reg_free 16 (v := .int .i64 3) rfl (by kernel_rfl) (by kernel_rfl) (by kernel_rfl) (fun _ _ _ h => h) (by (first | exact want_none rfl | exact want_some rfl rfl rfl rfl)) (fun w => by go_simp) hS ?_
                          simp only [Act.put, List.setIfInBounds_toArray, List.set_cons_zero, List.set_cons_succ]
                          refine reg_done (by kernel_rfl) ?_
                          clear hS
                          go_wp2_with (first | ((with_reducible refine wpl ?_); apply al_box (hM := hM); rfl; (first | exact want_none rfl | exact want_some rfl rfl rfl rfl); (first | (focus (go_simp; done)) | (focus (go_simp; rfl))); intro gb w1 hM1; clear hM; dsimp only [Value.cells] at hM1; have hM := hM1; clear hM1; simp only [Act.put, List.setIfInBounds_toArray, List.set_cons_zero, List.set_cons_succ]) | ((with_reducible refine wpl ?_); apply al_zero (hM := hM); rfl; (first | exact want_none rfl | exact want_some rfl rfl rfl rfl); (first | exact zero41 | exact zero45); intro gz w1 hM1; clear hM; dsimp only [Value.cells] at hM1; have hM := hM1; clear hM1; simp only [Act.put, List.setIfInBounds_toArray, List.set_cons_zero, List.set_cons_succ]) | ((with_reducible refine wpl ?_); apply ld_row (hM := hM); rfl; (first | exact want_none rfl | exact want_some rfl rfl rfl rfl); rfl; (first | exact .head _ _ | exact .tail (.head _ _) | exact .tail (.tail (.head _ _)) | exact .tail (.tail (.tail (.head _ _))) | exact .tail (.tail (.tail (.tail (.head _ _)))) | exact .tail (.tail (.tail (.tail (.tail (.head _ _)))))); (first | exact row41 | exact row45); simp only [Act.put, List.setIfInBounds_toArray, List.set_cons_zero, List.set_cons_succ]) | ((with_reducible refine wpl ?_); apply st_row (hM := hM); rfl; (first | exact want_none rfl | exact want_some rfl rfl rfl rfl); rfl; (first | (focus (go_simp; done)) | (focus (go_simp; rfl))); (first | exact .head _ _ | exact .tail (.head _ _) | exact .tail (.tail (.head _ _)) | exact .tail (.tail (.tail (.head _ _))) | exact .tail (.tail (.tail (.tail (.head _ _)))) | exact .tail (.tail (.tail (.tail (.tail (.head _ _)))))); rfl; rfl; (first | exact row41 | exact row45); intro w1 hM1; clear hM; (try simp only [List.setIfInBounds_toArray, List.set_cons_zero, List.set_cons_succ] at hM1); (try rw [tab_setInt] at hM1);  have hM := hM1; clear hM1; simp only [Act.put, List.setIfInBounds_toArray, List.set_cons_zero, List.set_cons_succ]) | ((with_reducible refine wpl ?_); apply ld_one (hM := hM); rfl; (first | exact want_none rfl | exact want_some rfl rfl rfl rfl); rfl; (first | exact .head _ _ | exact .tail (.head _ _) | exact .tail (.tail (.head _ _)) | exact .tail (.tail (.tail (.head _ _))) | exact .tail (.tail (.tail (.tail (.head _ _)))) | exact .tail (.tail (.tail (.tail (.tail (.head _ _)))))); (first | (focus (simp only [List.getElem?_toArray, List.getElem?_cons_zero, List.getElem?_cons_succ]; rfl)) | exact tab_get (by omega) | rfl); (first | exact one3 | exact one39); simp only [Act.put, List.setIfInBounds_toArray, List.set_cons_zero, List.set_cons_succ]) | ((with_reducible refine wpl ?_); apply st_cell (hM := hM); rfl; (first | exact want_none rfl | exact want_some rfl rfl rfl rfl); rfl; (first | (focus (go_simp; done)) | (focus (go_simp; rfl))); (first | exact .head _ _ | exact .tail (.head _ _) | exact .tail (.tail (.head _ _)) | exact .tail (.tail (.tail (.head _ _))) | exact .tail (.tail (.tail (.tail (.head _ _)))) | exact .tail (.tail (.tail (.tail (.tail (.head _ _)))))); (first | (focus (simp; done)) | (focus (rw [tab_size]; omega))); rfl; (first | exact one3 | exact one39); intro w1 hM1; clear hM; (try simp only [List.setIfInBounds_toArray, List.set_cons_zero, List.set_cons_succ] at hM1); (try rw [tab_setInt] at hM1);  have hM := hM1; clear hM1; simp only [Act.put, List.setIfInBounds_toArray, List.set_cons_zero, List.set_cons_succ]))
                          go_meet
                          exact ⟨ss, B4, cs, _, _, rfl, hle.trans hl4, hcs, hIs.le hl4, hid_ (by have := hjl.out; omega), hid_ (fun d hd => by have := hdl.out d hd; omega), hTa, hM.tail.tail⟩
                      · as_aux_lemma =>
                          apply al_zero (hM := hM); rfl; (first | exact want_none rfl | exact want_some rfl rfl rfl rfl); exact zero41
                          intro gC w5 hM1
                          clear hM
                          dsimp only [Value.cells] at hM1
                          have hM := hM1
                          clear hM1
                          clear hS
                          have hS : Mem B w5 [] [⟨gO, #[.int .i64 ok_, .int .i64 op_, .int .i64 on_], 45, (0, 0)⟩, ⟨ga, ca, 41, (0, 0)⟩] := (hl4.mem hM).tail.swap.none.swap
                          refine ⟨hS, ?_⟩
                          simp only [Act.put, List.setIfInBounds_toArray, List.set_cons_zero, List.set_cons_succ]
                          refine reg_step 10 (by kernel_rfl) rfl ?_
                          refine call_fn rfl (by (first | exact want_none rfl | exact want_some rfl rfl rfl rfl)) cf22 (cappend_full (c := ⟨.slice xa L.length xk, L, b⟩) (v := (b.length : Nat)) hM hc1 (hI1.le hl4) hbk (by simp only [List.length_replicate]; omega) (by simp only [List.length_replicate]; exact hfit.out) rfl) (by simp only [List.map_toArray, List.map_cons, List.map_nil]; rfl) ?_
                          rintro e w4 ⟨rfl, hM1⟩
                          clear hM
                          have hM := hM1
                          clear hM1
                          refine ⟨_, rfl, ?_⟩
                          clear hS
                          have hS : Mem B w4 [] [⟨gO, #[.int .i64 ok_, .int .i64 op_, .int .i64 on_], 45, (0, 0)⟩, ⟨ga, ca, 41, (0, 0)⟩] := (hl4.mem hM).tail.swap.none.swap
                          refine ⟨hS, ?_⟩
                          simp only [Act.put, List.setIfInBounds_toArray, List.set_cons_zero, List.set_cons_succ]
                          refine reg_free 11 (v := .tuple #[.agg #[.slice xa L.length xk, .int .i64 (b.length : Nat)], .int .i64 3]) rfl (by kernel_rfl) (by kernel_rfl) (by kernel_rfl) (fun _ _ _ h => h) (by (first | exact want_none rfl | exact want_some rfl rfl rfl rfl)) (fun w => by go_simp) hS ?_
                          simp only [Act.put, List.setIfInBounds_toArray, List.set_cons_zero, List.set_cons_succ]
                          refine reg_free 12 (v := .agg #[.slice xa L.length xk, .int .i64 (b.length : Nat)]) rfl (by kernel_rfl) (by kernel_rfl) (by kernel_rfl) (fun _ _ _ h => h) (by (first | exact want_none rfl | exact want_some rfl rfl rfl rfl)) (fun w => by go_simp) hS ?_
                          simp only [Act.put, List.setIfInBounds_toArray, List.set_cons_zero, List.set_cons_succ]
                          refine reg_free 13 (v := .int .i64 3) rfl (by kernel_rfl) (by kernel_rfl) (by kernel_rfl) (fun _ _ _ h => h) (by (first | exact want_none rfl | exact want_some rfl rfl rfl rfl)) (fun w => by go_simp) hS ?_
                          simp only [Act.put, List.setIfInBounds_toArray, List.set_cons_zero, List.set_cons_succ]
                          refine reg_step 15 (by kernel_rfl) rfl ?_
                          apply st_row (hM := hM); rfl; (first | exact want_none rfl | exact want_some rfl rfl rfl rfl); rfl; (first | (focus (go_simp; done)) | (focus (go_simp; rfl))); (first | exact .head _ _ | exact .tail (.head _ _) | exact .tail (.tail (.head _ _))); rfl; rfl; exact row41
                          intro w6 hM1
                          clear hM
                          have hM := hM1
                          clear hM1
                          clear hS
                          have hS : Mem B w6 [] [⟨gO, #[.int .i64 ok_, .int .i64 op_, .int .i64 on_], 45, (0, 0)⟩, ⟨ga, ca, 41, (0, 0)⟩] := (hl4.mem hM).tail.swap.none.swap
                          refine ⟨hS, ?_⟩
                          simp only [Act.put, List.setIfInBounds_toArray, List.set_cons_zero, List.set_cons_succ]
                          refine reg_free 16 (v := .int .i64 3) rfl (by kernel_rfl) (by kernel_rfl) (by kernel_rfl) (fun _ _ _ h => h) (by (first | exact want_none rfl | exact want_some rfl rfl rfl rfl)) (fun w => by go_simp) hS ?_
                          simp only [Act.put, List.setIfInBounds_toArray, List.set_cons_zero, List.set_cons_succ]
                          refine reg_done (by kernel_rfl) ?_
                          clear hS
                          go_wp2_with (first | ((with_reducible refine wpl ?_); apply al_box (hM := hM); rfl; (first | exact want_none rfl | exact want_some rfl rfl rfl rfl); (first | (focus (go_simp; done)) | (focus (go_simp; rfl))); intro gb w1 hM1; clear hM; dsimp only [Value.cells] at hM1; have hM := hM1; clear hM1; simp only [Act.put, List.setIfInBounds_toArray, List.set_cons_zero, List.set_cons_succ]) | ((with_reducible refine wpl ?_); apply al_zero (hM := hM); rfl; (first | exact want_none rfl | exact want_some rfl rfl rfl rfl); (first | exact zero41 | exact zero45); intro gz w1 hM1; clear hM; dsimp only [Value.cells] at hM1; have hM := hM1; clear hM1; simp only [Act.put, List.setIfInBounds_toArray, List.set_cons_zero, List.set_cons_succ]) | ((with_reducible refine wpl ?_); apply ld_row (hM := hM); rfl; (first | exact want_none rfl | exact want_some rfl rfl rfl rfl); rfl; (first | exact .head _ _ | exact .tail (.head _ _) | exact .tail (.tail (.head _ _)) | exact .tail (.tail (.tail (.head _ _))) | exact .tail (.tail (.tail (.tail (.head _ _)))) | exact .tail (.tail (.tail (.tail (.tail (.head _ _)))))); (first | exact row41 | exact row45); simp only [Act.put, List.setIfInBounds_toArray, List.set_cons_zero, List.set_cons_succ]) | ((with_reducible refine wpl ?_); apply st_row (hM := hM); rfl; (first | exact want_none rfl | exact want_some rfl rfl rfl rfl); rfl; (first | (focus (go_simp; done)) | (focus (go_simp; rfl))); (first | exact .head _ _ | exact .tail (.head _ _) | exact .tail (.tail (.head _ _)) | exact .tail (.tail (.tail (.head _ _))) | exact .tail (.tail (.tail (.tail (.head _ _)))) | exact .tail (.tail (.tail (.tail (.tail (.head _ _)))))); rfl; rfl; (first | exact row41 | exact row45); intro w1 hM1; clear hM; (try simp only [List.setIfInBounds_toArray, List.set_cons_zero, List.set_cons_succ] at hM1); (try rw [tab_setInt] at hM1);  have hM := hM1; clear hM1; simp only [Act.put, List.setIfInBounds_toArray, List.set_cons_zero, List.set_cons_succ]) | ((with_reducible refine wpl ?_); apply ld_one (hM := hM); rfl; (first | exact want_none rfl | exact want_some rfl rfl rfl rfl); rfl; (first | exact .head _ _ | exact .tail (.head _ _) | exact .tail (.tail (.head _ _)) | exact .tail (.tail (.tail (.head _ _))) | exact .tail (.tail (.tail (.tail (.head _ _)))) | exact .tail (.tail (.tail (.tail (.tail (.head _ _)))))); (first | (focus (simp only [List.getElem?_toArray, List.getElem?_cons_zero, List.getElem?_cons_succ]; rfl)) | exact tab_get (by omega) | rfl); (first | exact one3 | exact one39); simp only [Act.put, List.setIfInBounds_toArray, List.set_cons_zero, List.set_cons_succ]) | ((with_reducible refine wpl ?_); apply st_cell (hM := hM); rfl; (first | exact want_none rfl | exact want_some rfl rfl rfl rfl); rfl; (first | (focus (go_simp; done)) | (focus (go_simp; rfl))); (first | exact .head _ _ | exact .tail (.head _ _) | exact .tail (.tail (.head _ _)) | exact .tail (.tail (.tail (.head _ _))) | exact .tail (.tail (.tail (.tail (.head _ _)))) | exact .tail (.tail (.tail (.tail (.tail (.head _ _)))))); (first | (focus (simp; done)) | (focus (rw [tab_size]; omega))); rfl; (first | exact one3 | exact one39); intro w1 hM1; clear hM; (try simp only [List.setIfInBounds_toArray, List.set_cons_zero, List.set_cons_succ] at hM1); (try rw [tab_setInt] at hM1);  have hM := hM1; clear hM1; simp only [Act.put, List.setIfInBounds_toArray, List.set_cons_zero, List.set_cons_succ]))
                          go_meet
                          exact ⟨ss, B4, cs, _, _, rfl, hle.trans hl4, hcs, hIs.le hl4, hid_ (by have := hjl.out; omega), hid_ (fun d hd => by have := hdl.out d hd; omega), hTa, hM.tail.tail⟩
                  · as_aux_lemma =>
                      apply al_zero (hM := hM); rfl; (first | exact want_none rfl | exact want_some rfl rfl rfl rfl); exact zero41
                      intro gC w5 hM1
                      clear hM
                      dsimp only [Value.cells] at hM1
                      have hM := hM1
                      clear hM1
                      clear hS
                      have hS : Mem B w5 [] [⟨gO, #[.int .i64 ok_, .int .i64 op_, .int .i64 on_], 45, (0, 0)⟩, ⟨ga, ca, 41, (0, 0)⟩] := hM.tail.swap.none.swap
                      refine ⟨hS, ?_⟩
                      simp only [Act.put, List.setIfInBounds_toArray, List.set_cons_zero, List.set_cons_succ]
                      refine reg_step 9 (by kernel_rfl) rfl ?_
                      apply al_make (hM := hM) (n := km) (ht := sl22); rfl; (first | exact want_none rfl | exact want_some rfl rfl rfl rfl); rfl; rfl; omega; omega
                      intro gm w5 hM1
                      clear hM
                      obtain ⟨B4, hl4, hM2, hbk⟩ := parkedB (n := km) (cc := km) hM1 (List.replicate km (0 : UInt8)) (by simp) (Nat.le_refl _) (fun j hj => by rw [show (Value.int .u8 0).cells = #[Value.int .u8 0] from rfl, madeCells_one, Nat.mul_one, tab_get hj, getD_zeros]; rfl)
                      clear hM1
                      have hM := hM2
                      clear hM2
                      clear hS
                      have hS : Mem B w5 [] [⟨gO, #[.int .i64 ok_, .int .i64 op_, .int .i64 on_], 45, (0, 0)⟩, ⟨ga, ca, 41, (0, 0)⟩] := (hl4.mem hM).tail.swap.none.swap
                      refine ⟨hS, ?_⟩
                      simp only [Act.put, List.setIfInBounds_toArray, List.set_cons_zero, List.set_cons_succ]
                      refine reg_step 10 (by kernel_rfl) rfl ?_
                      refine call_fn rfl (by (first | exact want_none rfl | exact want_some rfl rfl rfl rfl)) cf22 (cappend_full (c := ⟨.slice xa L.length xk, L, b⟩) (v := (b.length : Nat)) hM hc1 (hI1.le hl4) hbk (by simp only [List.length_replicate]; omega) (by simp only [List.length_replicate]; exact hfit.out) rfl) (by simp only [List.map_toArray, List.map_cons, List.map_nil]; rfl) ?_
                      rintro e w4 ⟨rfl, hM1⟩
                      clear hM
                      have hM := hM1
                      clear hM1
                      refine ⟨_, rfl, ?_⟩
                      clear hS
                      have hS : Mem B w4 [] [⟨gO, #[.int .i64 ok_, .int .i64 op_, .int .i64 on_], 45, (0, 0)⟩, ⟨ga, ca, 41, (0, 0)⟩] := (hl4.mem hM).tail.swap.none.swap
                      refine ⟨hS, ?_⟩
                      simp only [Act.put, List.setIfInBounds_toArray, List.set_cons_zero, List.set_cons_succ]
                      refine reg_free 11 (v := .tuple #[.agg #[.slice xa L.length xk, .int .i64 (b.length : Nat)], .int .i64 3]) rfl (by kernel_rfl) (by kernel_rfl) (by kernel_rfl) (fun _ _ _ h => h) (by (first | exact want_none rfl | exact want_some rfl rfl rfl rfl)) (fun w => by go_simp) hS ?_
                      simp only [Act.put, List.setIfInBounds_toArray, List.set_cons_zero, List.set_cons_succ]
                      refine reg_free 12 (v := .agg #[.slice xa L.length xk, .int .i64 (b.length : Nat)]) rfl (by kernel_rfl) (by kernel_rfl) (by kernel_rfl) (fun _ _ _ h => h) (by (first | exact want_none rfl | exact want_some rfl rfl rfl rfl)) (fun w => by go_simp) hS ?_
                      simp only [Act.put, List.setIfInBounds_toArray, List.set_cons_zero, List.set_cons_succ]
                      refine reg_free 13 (v := .int .i64 3) rfl (by kernel_rfl) (by kernel_rfl) (by kernel_rfl) (fun _ _ _ h => h) (by (first | exact want_none rfl | exact want_some rfl rfl rfl rfl)) (fun w => by go_simp) hS ?_
                      simp only [Act.put, List.setIfInBounds_toArray, List.set_cons_zero, List.set_cons_succ]
                      refine reg_step 15 (by kernel_rfl) rfl ?_
                      apply st_row (hM := hM); rfl; (first | exact want_none rfl | exact want_some rfl rfl rfl rfl); rfl; (first | (focus (go_simp; done)) | (focus (go_simp; rfl))); (first | exact .head _ _ | exact .tail (.head _ _) | exact .tail (.tail (.head _ _))); rfl; rfl; exact row41
                      intro w6 hM1
                      clear hM
                      have hM := hM1
                      clear hM1
                      clear hS
                      have hS : Mem B w6 [] [⟨gO, #[.int .i64 ok_, .int .i64 op_, .int .i64 on_], 45, (0, 0)⟩, ⟨ga, ca, 41, (0, 0)⟩] := (hl4.mem hM).tail.swap.none.swap
                      refine ⟨hS, ?_⟩
                      simp only [Act.put, List.setIfInBounds_toArray, List.set_cons_zero, List.set_cons_succ]
                      refine reg_free 16 (v := .int .i64 3) rfl (by kernel_rfl) (by kernel_rfl) (by kernel_rfl) (fun _ _ _ h => h) (by (first | exact want_none rfl | exact want_some rfl rfl rfl rfl)) (fun w => by go_simp) hS ?_
                      simp only [Act.put, List.setIfInBounds_toArray, List.set_cons_zero, List.set_cons_succ]
                      refine reg_done (by kernel_rfl) ?_
                      clear hS
                      go_wp2_with (first | ((with_reducible refine wpl ?_); apply al_box (hM := hM); rfl; (first | exact want_none rfl | exact want_some rfl rfl rfl rfl); (first | (focus (go_simp; done)) | (focus (go_simp; rfl))); intro gb w1 hM1; clear hM; dsimp only [Value.cells] at hM1; have hM := hM1; clear hM1; simp only [Act.put, List.setIfInBounds_toArray, List.set_cons_zero, List.set_cons_succ]) | ((with_reducible refine wpl ?_); apply al_zero (hM := hM); rfl; (first | exact want_none rfl | exact want_some rfl rfl rfl rfl); (first | exact zero41 | exact zero45); intro gz w1 hM1; clear hM; dsimp only [Value.cells] at hM1; have hM := hM1; clear hM1; simp only [Act.put, List.setIfInBounds_toArray, List.set_cons_zero, List.set_cons_succ]) | ((with_reducible refine wpl ?_); apply ld_row (hM := hM); rfl; (first | exact want_none rfl | exact want_some rfl rfl rfl rfl); rfl; (first | exact .head _ _ | exact .tail (.head _ _) | exact .tail (.tail (.head _ _)) | exact .tail (.tail (.tail (.head _ _))) | exact .tail (.tail (.tail (.tail (.head _ _)))) | exact .tail (.tail (.tail (.tail (.tail (.head _ _)))))); (first | exact row41 | exact row45); simp only [Act.put, List.setIfInBounds_toArray, List.set_cons_zero, List.set_cons_succ]) | ((with_reducible refine wpl ?_); apply st_row (hM := hM); rfl; (first | exact want_none rfl | exact want_some rfl rfl rfl rfl); rfl; (first | (focus (go_simp; done)) | (focus (go_simp; rfl))); (first | exact .head _ _ | exact .tail (.head _ _) | exact .tail (.tail (.head _ _)) | exact .tail (.tail (.tail (.head _ _))) | exact .tail (.tail (.tail (.tail (.head _ _)))) | exact .tail (.tail (.tail (.tail (.tail (.head _ _)))))); rfl; rfl; (first | exact row41 | exact row45); intro w1 hM1; clear hM; (try simp only [List.setIfInBounds_toArray, List.set_cons_zero, List.set_cons_succ] at hM1); (try rw [tab_setInt] at hM1);  have hM := hM1; clear hM1; simp only [Act.put, List.setIfInBounds_toArray, List.set_cons_zero, List.set_cons_succ]) | ((with_reducible refine wpl ?_); apply ld_one (hM := hM); rfl; (first | exact want_none rfl | exact want_some rfl rfl rfl rfl); rfl; (first | exact .head _ _ | exact .tail (.head _ _) | exact .tail (.tail (.head _ _)) | exact .tail (.tail (.tail (.head _ _))) | exact .tail (.tail (.tail (.tail (.head _ _)))) | exact .tail (.tail (.tail (.tail (.tail (.head _ _)))))); (first | (focus (simp only [List.getElem?_toArray, List.getElem?_cons_zero, List.getElem?_cons_succ]; rfl)) | exact tab_get (by omega) | rfl); (first | exact one3 | exact one39); simp only [Act.put, List.setIfInBounds_toArray, List.set_cons_zero, List.set_cons_succ]) | ((with_reducible refine wpl ?_); apply st_cell (hM := hM); rfl; (first | exact want_none rfl | exact want_some rfl rfl rfl rfl); rfl; (first | (focus (go_simp; done)) | (focus (go_simp; rfl))); (first | exact .head _ _ | exact .tail (.head _ _) | exact .tail (.tail (.head _ _)) | exact .tail (.tail (.tail (.head _ _))) | exact .tail (.tail (.tail (.tail (.head _ _)))) | exact .tail (.tail (.tail (.tail (.tail (.head _ _)))))); (first | (focus (simp; done)) | (focus (rw [tab_size]; omega))); rfl; (first | exact one3 | exact one39); intro w1 hM1; clear hM; (try simp only [List.setIfInBounds_toArray, List.set_cons_zero, List.set_cons_succ] at hM1); (try rw [tab_setInt] at hM1);  have hM := hM1; clear hM1; simp only [Act.put, List.setIfInBounds_toArray, List.set_cons_zero, List.set_cons_succ]))
                      go_meet
                      exact ⟨ss, B4, cs, _, _, rfl, hle.trans hl4, hcs, hIs.le hl4, hid_ (by have := hjl.out; omega), hid_ (fun d hd => by have := hdl.out d hd; omega), hTa, hM.tail.tail⟩
            by_cases hk : ok_.tmod 4 = 1
            · have s0 : (ok_.tmod 4 == 0) = false := beq_eq_false_iff_ne.2 (by omega)
              have s1 : (ok_.tmod 4 == 1) = true := beq_iff_eq.2 hk
              clear hk
              as_aux_lemma =>
                go_wp2_with (first | ((with_reducible refine wpl ?_); apply ld_at (hM := hM) [.slice xa L.length xk, .int .i64 (b.length : Nat)]; rfl; (first | exact want_none rfl | exact want_some rfl rfl rfl rfl); rfl; (first | exact .head _ _ | exact .tail (.head _ _) | exact .tail (.tail (.head _ _)) | exact .tail (.tail (.tail (.head _ _))) | exact .tail (.tail (.tail (.tail (.head _ _))))); exact hela.out; exact row41; simp only [Act.put, List.setIfInBounds_toArray, List.set_cons_zero, List.set_cons_succ]) | ((with_reducible refine wpl ?_); apply al_box (hM := hM); rfl; (first | exact want_none rfl | exact want_some rfl rfl rfl rfl); (first | (focus (go_simp; done)) | (focus (go_simp; rfl))); intro gb w1 hM1; clear hM; dsimp only [Value.cells] at hM1; have hM := hM1; clear hM1; simp only [Act.put, List.setIfInBounds_toArray, List.set_cons_zero, List.set_cons_succ]) | ((with_reducible refine wpl ?_); apply al_zero (hM := hM); rfl; (first | exact want_none rfl | exact want_some rfl rfl rfl rfl); (first | exact zero41 | exact zero45); intro gz w1 hM1; clear hM; dsimp only [Value.cells] at hM1; have hM := hM1; clear hM1; simp only [Act.put, List.setIfInBounds_toArray, List.set_cons_zero, List.set_cons_succ]) | ((with_reducible refine wpl ?_); apply ld_row (hM := hM); rfl; (first | exact want_none rfl | exact want_some rfl rfl rfl rfl); rfl; (first | exact .head _ _ | exact .tail (.head _ _) | exact .tail (.tail (.head _ _)) | exact .tail (.tail (.tail (.head _ _))) | exact .tail (.tail (.tail (.tail (.head _ _)))) | exact .tail (.tail (.tail (.tail (.tail (.head _ _)))))); (first | exact row41 | exact row45); simp only [Act.put, List.setIfInBounds_toArray, List.set_cons_zero, List.set_cons_succ]) | ((with_reducible refine wpl ?_); apply st_row (hM := hM); rfl; (first | exact want_none rfl | exact want_some rfl rfl rfl rfl); rfl; (first | (focus (go_simp; done)) | (focus (go_simp; rfl))); (first | exact .head _ _ | exact .tail (.head _ _) | exact .tail (.tail (.head _ _)) | exact .tail (.tail (.tail (.head _ _))) | exact .tail (.tail (.tail (.tail (.head _ _)))) | exact .tail (.tail (.tail (.tail (.tail (.head _ _)))))); rfl; rfl; (first | exact row41 | exact row45); intro w1 hM1; clear hM; (try simp only [List.setIfInBounds_toArray, List.set_cons_zero, List.set_cons_succ] at hM1); (try rw [tab_setInt] at hM1);  have hM := hM1; clear hM1; simp only [Act.put, List.setIfInBounds_toArray, List.set_cons_zero, List.set_cons_succ]) | ((with_reducible refine wpl ?_); apply ld_one (hM := hM); rfl; (first | exact want_none rfl | exact want_some rfl rfl rfl rfl); rfl; (first | exact .head _ _ | exact .tail (.head _ _) | exact .tail (.tail (.head _ _)) | exact .tail (.tail (.tail (.head _ _))) | exact .tail (.tail (.tail (.tail (.head _ _)))) | exact .tail (.tail (.tail (.tail (.tail (.head _ _)))))); (first | (focus (simp only [List.getElem?_toArray, List.getElem?_cons_zero, List.getElem?_cons_succ]; rfl)) | exact tab_get (by omega) | rfl); (first | exact one3 | exact one39); simp only [Act.put, List.setIfInBounds_toArray, List.set_cons_zero, List.set_cons_succ]) | ((with_reducible refine wpl ?_); apply st_cell (hM := hM); rfl; (first | exact want_none rfl | exact want_some rfl rfl rfl rfl); rfl; (first | (focus (go_simp; done)) | (focus (go_simp; rfl))); (first | exact .head _ _ | exact .tail (.head _ _) | exact .tail (.tail (.head _ _)) | exact .tail (.tail (.tail (.head _ _))) | exact .tail (.tail (.tail (.tail (.head _ _)))) | exact .tail (.tail (.tail (.tail (.tail (.head _ _)))))); (first | (focus (simp; done)) | (focus (rw [tab_size]; omega))); rfl; (first | exact one3 | exact one39); intro w1 hM1; clear hM; (try simp only [List.setIfInBounds_toArray, List.set_cons_zero, List.set_cons_succ] at hM1); (try rw [tab_setInt] at hM1);  have hM := hM1; clear hM1; simp only [Act.put, List.setIfInBounds_toArray, List.set_cons_zero, List.set_cons_succ]))
                refine (cshare (c := ⟨.slice xa L.length xk, L, b⟩) (v := (b.length : Nat)) hM hc1 hI1 (by rw [List.length_cons]; have h1 := hlenc.out; have h2 := hjl.out; omega) (fun d hd => by
                  rcases List.mem_cons.1 hd with rfl | hd
                  · simp only; omega
                  · have := hdl.out d (List.mem_of_mem_eraseIdx hd); omega) rfl).mono ?_
                rintro e w4 ⟨s2, a2, m2, k2, B2, rfl, hl2, hM1, hc2, hI2, hf2⟩
                clear hM
                have hM := hM1
                clear hM1
                clear hf2
                go_wp2_with (first | ((with_reducible refine wpl ?_); apply al_elem (hM := hM) (ht := sl44) (v := .agg #[.slice a2 m2 k2, .int .i64 (b.length : Nat)]) (cells := #[.slice a2 m2 k2, .int .i64 (b.length : Nat)]); rfl; (first | exact want_none rfl | exact want_some rfl rfl rfl rfl); decide; (first | rfl | (focus (go_simp; done))); simp [Instr.fill, Value.cells, Array.range_succ, Array.range_zero']; intro gq w1 hM1; clear hM; have hM := hM1; clear hM1; simp only [Act.put, List.setIfInBounds_toArray, List.set_cons_zero, List.set_cons_succ]) | ((with_reducible refine wpl ?_); apply tb_app_p (hM := hM) (hT := hTa) (es := [.slice a2 m2 k2, .int .i64 (b.length : Nat)]) (A := [⟨gz, #[.slice a2 m2 k2, .int .i64 (b.length : Nat)], 41, (0, 0)⟩, ⟨gO, #[.int .i64 ok_, .int .i64 op_, .int .i64 on_], 45, (0, 0)⟩]) (ht := sl44); rfl; (first | exact want_none rfl | exact want_some rfl rfl rfl rfl); rfl; exact List.Perm.refl _; rfl; rfl; rfl; rfl; decide; omega; omega; intro g1 c1 n1 cells1 w8 hn_g1 hTa1 hM1; clear hM; simp only [List.cons_append, List.nil_append] at hM1; have hM := hM1; clear hM1; simp only [Act.put, List.setIfInBounds_toArray, List.set_cons_zero, List.set_cons_succ]) | ((with_reducible refine wpl ?_); apply al_box (hM := hM); rfl; (first | exact want_none rfl | exact want_some rfl rfl rfl rfl); (first | (focus (go_simp; done)) | (focus (go_simp; rfl))); intro gb w1 hM1; clear hM; dsimp only [Value.cells] at hM1; have hM := hM1; clear hM1; simp only [Act.put, List.setIfInBounds_toArray, List.set_cons_zero, List.set_cons_succ]) | ((with_reducible refine wpl ?_); apply al_zero (hM := hM); rfl; (first | exact want_none rfl | exact want_some rfl rfl rfl rfl); (first | exact zero41 | exact zero45); intro gz w1 hM1; clear hM; dsimp only [Value.cells] at hM1; have hM := hM1; clear hM1; simp only [Act.put, List.setIfInBounds_toArray, List.set_cons_zero, List.set_cons_succ]) | ((with_reducible refine wpl ?_); apply ld_row (hM := hM); rfl; (first | exact want_none rfl | exact want_some rfl rfl rfl rfl); rfl; (first | exact .head _ _ | exact .tail (.head _ _) | exact .tail (.tail (.head _ _)) | exact .tail (.tail (.tail (.head _ _))) | exact .tail (.tail (.tail (.tail (.head _ _)))) | exact .tail (.tail (.tail (.tail (.tail (.head _ _)))))); (first | exact row41 | exact row45); simp only [Act.put, List.setIfInBounds_toArray, List.set_cons_zero, List.set_cons_succ]) | ((with_reducible refine wpl ?_); apply st_row (hM := hM); rfl; (first | exact want_none rfl | exact want_some rfl rfl rfl rfl); rfl; (first | (focus (go_simp; done)) | (focus (go_simp; rfl))); (first | exact .head _ _ | exact .tail (.head _ _) | exact .tail (.tail (.head _ _)) | exact .tail (.tail (.tail (.head _ _))) | exact .tail (.tail (.tail (.tail (.head _ _)))) | exact .tail (.tail (.tail (.tail (.tail (.head _ _)))))); rfl; rfl; (first | exact row41 | exact row45); intro w1 hM1; clear hM; (try simp only [List.setIfInBounds_toArray, List.set_cons_zero, List.set_cons_succ] at hM1); (try rw [tab_setInt] at hM1);  have hM := hM1; clear hM1; simp only [Act.put, List.setIfInBounds_toArray, List.set_cons_zero, List.set_cons_succ]) | ((with_reducible refine wpl ?_); apply ld_one (hM := hM); rfl; (first | exact want_none rfl | exact want_some rfl rfl rfl rfl); rfl; (first | exact .head _ _ | exact .tail (.head _ _) | exact .tail (.tail (.head _ _)) | exact .tail (.tail (.tail (.head _ _))) | exact .tail (.tail (.tail (.tail (.head _ _)))) | exact .tail (.tail (.tail (.tail (.tail (.head _ _)))))); (first | (focus (simp only [List.getElem?_toArray, List.getElem?_cons_zero, List.getElem?_cons_succ]; rfl)) | exact tab_get (by omega) | rfl); (first | exact one3 | exact one39); simp only [Act.put, List.setIfInBounds_toArray, List.set_cons_zero, List.set_cons_succ]) | ((with_reducible refine wpl ?_); apply st_cell (hM := hM); rfl; (first | exact want_none rfl | exact want_some rfl rfl rfl rfl); rfl; (first | (focus (go_simp; done)) | (focus (go_simp; rfl))); (first | exact .head _ _ | exact .tail (.head _ _) | exact .tail (.tail (.head _ _)) | exact .tail (.tail (.tail (.head _ _))) | exact .tail (.tail (.tail (.tail (.head _ _)))) | exact .tail (.tail (.tail (.tail (.tail (.head _ _)))))); (first | (focus (simp; done)) | (focus (rw [tab_size]; omega))); rfl; (first | exact one3 | exact one39); intro w1 hM1; clear hM; (try simp only [List.setIfInBounds_toArray, List.set_cons_zero, List.set_cons_succ] at hM1); (try rw [tab_setInt] at hM1);  have hM := hM1; clear hM1; simp only [Act.put, List.setIfInBounds_toArray, List.set_cons_zero, List.set_cons_succ]))
                have hTa2 := hTa1
                have e1 := flat_app ctc cs (⟨.slice a2 m2 k2, L, b⟩ : Ct)
                rw [show ctc (⟨.slice a2 m2 k2, L, b⟩ : Ct) = [Value.slice a2 m2 k2, .int .i64 (b.length : Nat)] from rfl] at e1
                rw [e1] at hTa2
                clear e1
                have hM2 := hM.sub (.cons (show Pick _ ⟨g1, cells1, 41, (0, 0)⟩ _ by (first | exact .head _ _ | exact .tail (.head _ _) | exact .tail (.tail (.head _ _)) | exact .tail (.tail (.tail (.head _ _))) | exact .tail (.tail (.tail (.tail (.head _ _)))) | exact .tail (.tail (.tail (.tail (.tail (.head _ _))))) | exact .tail (.tail (.tail (.tail (.tail (.tail (.head _ _)))))))) (.nil _))
                clear hTa1
                go_meet
                have hpp := (hperm.out.symm.cons (⟨.slice a2 m2 k2, L, b⟩ : Ct)).trans (List.perm_append_singleton _ _).symm
                refine ⟨s2, B2, cs ++ [⟨.slice a2 m2 k2, L, b⟩], _, _, rfl, hle.trans hl2, hc2.perm hpp, hI2.perm hpp, hid_ (by rw [List.length_append, List.length_singleton]; have := hjl.out; omega), hid_ (fun d hd => ?_), hTa2, hM2⟩
                rcases List.mem_append.1 hd with hd | hd
                · have := hdl.out d hd; omega
                · rw [List.mem_singleton] at hd
                  subst hd
                  simp only
                  omega
            by_cases hk : ok_.tmod 4 = 2
            · have s0 : (ok_.tmod 4 == 0) = false := beq_eq_false_iff_ne.2 (by omega)
              have s1 : (ok_.tmod 4 == 1) = false := beq_eq_false_iff_ne.2 (by omega)
              have s2 : (ok_.tmod 4 == 2) = true := beq_iff_eq.2 hk
              clear hk
              as_aux_lemma =>
                go_wp2_with (first | ((with_reducible refine wpl ?_); apply ld_at (hM := hM) [.slice xa L.length xk, .int .i64 (b.length : Nat)]; rfl; (first | exact want_none rfl | exact want_some rfl rfl rfl rfl); rfl; (first | exact .head _ _ | exact .tail (.head _ _) | exact .tail (.tail (.head _ _)) | exact .tail (.tail (.tail (.head _ _))) | exact .tail (.tail (.tail (.tail (.head _ _))))); exact hela.out; exact row41; simp only [Act.put, List.setIfInBounds_toArray, List.set_cons_zero, List.set_cons_succ]) | ((with_reducible refine wpl ?_); apply al_box (hM := hM); rfl; (first | exact want_none rfl | exact want_some rfl rfl rfl rfl); (first | (focus (go_simp; done)) | (focus (go_simp; rfl))); intro gb w1 hM1; clear hM; dsimp only [Value.cells] at hM1; have hM := hM1; clear hM1; simp only [Act.put, List.setIfInBounds_toArray, List.set_cons_zero, List.set_cons_succ]) | ((with_reducible refine wpl ?_); apply al_zero (hM := hM); rfl; (first | exact want_none rfl | exact want_some rfl rfl rfl rfl); (first | exact zero41 | exact zero45); intro gz w1 hM1; clear hM; dsimp only [Value.cells] at hM1; have hM := hM1; clear hM1; simp only [Act.put, List.setIfInBounds_toArray, List.set_cons_zero, List.set_cons_succ]) | ((with_reducible refine wpl ?_); apply ld_row (hM := hM); rfl; (first | exact want_none rfl | exact want_some rfl rfl rfl rfl); rfl; (first | exact .head _ _ | exact .tail (.head _ _) | exact .tail (.tail (.head _ _)) | exact .tail (.tail (.tail (.head _ _))) | exact .tail (.tail (.tail (.tail (.head _ _)))) | exact .tail (.tail (.tail (.tail (.tail (.head _ _)))))); (first | exact row41 | exact row45); simp only [Act.put, List.setIfInBounds_toArray, List.set_cons_zero, List.set_cons_succ]) | ((with_reducible refine wpl ?_); apply st_row (hM := hM); rfl; (first | exact want_none rfl | exact want_some rfl rfl rfl rfl); rfl; (first | (focus (go_simp; done)) | (focus (go_simp; rfl))); (first | exact .head _ _ | exact .tail (.head _ _) | exact .tail (.tail (.head _ _)) | exact .tail (.tail (.tail (.head _ _))) | exact .tail (.tail (.tail (.tail (.head _ _)))) | exact .tail (.tail (.tail (.tail (.tail (.head _ _)))))); rfl; rfl; (first | exact row41 | exact row45); intro w1 hM1; clear hM; (try simp only [List.setIfInBounds_toArray, List.set_cons_zero, List.set_cons_succ] at hM1); (try rw [tab_setInt] at hM1);  have hM := hM1; clear hM1; simp only [Act.put, List.setIfInBounds_toArray, List.set_cons_zero, List.set_cons_succ]) | ((with_reducible refine wpl ?_); apply ld_one (hM := hM); rfl; (first | exact want_none rfl | exact want_some rfl rfl rfl rfl); rfl; (first | exact .head _ _ | exact .tail (.head _ _) | exact .tail (.tail (.head _ _)) | exact .tail (.tail (.tail (.head _ _))) | exact .tail (.tail (.tail (.tail (.head _ _)))) | exact .tail (.tail (.tail (.tail (.tail (.head _ _)))))); (first | (focus (simp only [List.getElem?_toArray, List.getElem?_cons_zero, List.getElem?_cons_succ]; rfl)) | exact tab_get (by omega) | rfl); (first | exact one3 | exact one39); simp only [Act.put, List.setIfInBounds_toArray, List.set_cons_zero, List.set_cons_succ]) | ((with_reducible refine wpl ?_); apply st_cell (hM := hM); rfl; (first | exact want_none rfl | exact want_some rfl rfl rfl rfl); rfl; (first | (focus (go_simp; done)) | (focus (go_simp; rfl))); (first | exact .head _ _ | exact .tail (.head _ _) | exact .tail (.tail (.head _ _)) | exact .tail (.tail (.tail (.head _ _))) | exact .tail (.tail (.tail (.tail (.head _ _)))) | exact .tail (.tail (.tail (.tail (.tail (.head _ _)))))); (first | (focus (simp; done)) | (focus (rw [tab_size]; omega))); rfl; (first | exact one3 | exact one39); intro w1 hM1; clear hM; (try simp only [List.setIfInBounds_toArray, List.set_cons_zero, List.set_cons_succ] at hM1); (try rw [tab_setInt] at hM1);  have hM := hM1; clear hM1; simp only [Act.put, List.setIfInBounds_toArray, List.set_cons_zero, List.set_cons_succ]))
                refine (cdrop (c := ⟨.slice xa L.length xk, L, b⟩) (v := (b.length : Nat)) hM hc1 hI1 (by simp only; omega) rfl).mono ?_
                rintro e w4 ⟨s2, rfl, hM1, hc2⟩
                clear hM
                have hM := hM1
                clear hM1
                go_wp2_with (first | ((with_reducible refine wpl ?_); apply al_box (hM := hM); rfl; (first | exact want_none rfl | exact want_some rfl rfl rfl rfl); (first | (focus (go_simp; done)) | (focus (go_simp; rfl))); intro gb w1 hM1; clear hM; dsimp only [Value.cells] at hM1; have hM := hM1; clear hM1; simp only [Act.put, List.setIfInBounds_toArray, List.set_cons_zero, List.set_cons_succ]) | ((with_reducible refine wpl ?_); apply al_zero (hM := hM); rfl; (first | exact want_none rfl | exact want_some rfl rfl rfl rfl); (first | exact zero41 | exact zero45); intro gz w1 hM1; clear hM; dsimp only [Value.cells] at hM1; have hM := hM1; clear hM1; simp only [Act.put, List.setIfInBounds_toArray, List.set_cons_zero, List.set_cons_succ]) | ((with_reducible refine wpl ?_); apply ld_row (hM := hM); rfl; (first | exact want_none rfl | exact want_some rfl rfl rfl rfl); rfl; (first | exact .head _ _ | exact .tail (.head _ _) | exact .tail (.tail (.head _ _)) | exact .tail (.tail (.tail (.head _ _))) | exact .tail (.tail (.tail (.tail (.head _ _)))) | exact .tail (.tail (.tail (.tail (.tail (.head _ _)))))); (first | exact row41 | exact row45); simp only [Act.put, List.setIfInBounds_toArray, List.set_cons_zero, List.set_cons_succ]) | ((with_reducible refine wpl ?_); apply st_row (hM := hM); rfl; (first | exact want_none rfl | exact want_some rfl rfl rfl rfl); rfl; (first | (focus (go_simp; done)) | (focus (go_simp; rfl))); (first | exact .head _ _ | exact .tail (.head _ _) | exact .tail (.tail (.head _ _)) | exact .tail (.tail (.tail (.head _ _))) | exact .tail (.tail (.tail (.tail (.head _ _)))) | exact .tail (.tail (.tail (.tail (.tail (.head _ _)))))); rfl; rfl; (first | exact row41 | exact row45); intro w1 hM1; clear hM; (try simp only [List.setIfInBounds_toArray, List.set_cons_zero, List.set_cons_succ] at hM1); (try rw [tab_setInt] at hM1);  have hM := hM1; clear hM1; simp only [Act.put, List.setIfInBounds_toArray, List.set_cons_zero, List.set_cons_succ]) | ((with_reducible refine wpl ?_); apply ld_one (hM := hM); rfl; (first | exact want_none rfl | exact want_some rfl rfl rfl rfl); rfl; (first | exact .head _ _ | exact .tail (.head _ _) | exact .tail (.tail (.head _ _)) | exact .tail (.tail (.tail (.head _ _))) | exact .tail (.tail (.tail (.tail (.head _ _)))) | exact .tail (.tail (.tail (.tail (.tail (.head _ _)))))); (first | (focus (simp only [List.getElem?_toArray, List.getElem?_cons_zero, List.getElem?_cons_succ]; rfl)) | exact tab_get (by omega) | rfl); (first | exact one3 | exact one39); simp only [Act.put, List.setIfInBounds_toArray, List.set_cons_zero, List.set_cons_succ]) | ((with_reducible refine wpl ?_); apply st_cell (hM := hM); rfl; (first | exact want_none rfl | exact want_some rfl rfl rfl rfl); rfl; (first | (focus (go_simp; done)) | (focus (go_simp; rfl))); (first | exact .head _ _ | exact .tail (.head _ _) | exact .tail (.tail (.head _ _)) | exact .tail (.tail (.tail (.head _ _))) | exact .tail (.tail (.tail (.tail (.head _ _)))) | exact .tail (.tail (.tail (.tail (.tail (.head _ _)))))); (first | (focus (simp; done)) | (focus (rw [tab_size]; omega))); rfl; (first | exact one3 | exact one39); intro w1 hM1; clear hM; (try simp only [List.setIfInBounds_toArray, List.set_cons_zero, List.set_cons_succ] at hM1); (try rw [tab_setInt] at hM1);  have hM := hM1; clear hM1; simp only [Act.put, List.setIfInBounds_toArray, List.set_cons_zero, List.set_cons_succ]))
                have hwr1 : IntKind.i64.wrap ((i : Int) + 1) = (i : Int) + 1 := IntWalk.i64_in _ (by omega)
                refine reg_begin (fun w' => Mem B w' [] [⟨gO, #[.int .i64 ok_, .int .i64 op_, .int .i64 on_], 45, (0, 0)⟩]) (by kernel_rfl) hM (fun wd hMd => ?_)
                clear hM
                have hM := hMd
                clear hMd
                have hS := (show Mem B _ [] [⟨gO, #[.int .i64 ok_, .int .i64 op_, .int .i64 on_], 45, (0, 0)⟩] from (hM.swap.none.swap.sub (.cons (by (first | exact .head _ _ | exact .tail (.head _ _) | exact .tail (.tail (.head _ _)) | exact .tail (.tail (.tail (.head _ _))) | exact .tail (.tail (.tail (.tail (.head _ _)))))) (.nil _))))
                refine reg_free 0 (v := .slice (some ⟨ga, 0, none⟩) an ac) rfl (by kernel_rfl) (by kernel_rfl) (by kernel_rfl) (fun _ _ _ h => h) (by (first | exact want_none rfl | exact want_some rfl rfl rfl rfl)) (fun w => by go_simp) hS ?_
                simp only [Act.put, List.setIfInBounds_toArray, List.set_cons_zero, List.set_cons_succ]
                refine reg_free 1 (v := .int .i64 (i : Nat)) rfl (by kernel_rfl) (by kernel_rfl) (by kernel_rfl) (fun _ _ _ h => h) (by (first | exact want_none rfl | exact want_some rfl rfl rfl rfl)) (fun w => by go_simp) hS ?_
                simp only [Act.put, List.setIfInBounds_toArray, List.set_cons_zero, List.set_cons_succ]
                refine reg_free 2 (v := .slice (some ⟨ga, 0, none⟩) i ac) rfl (by kernel_rfl) (by kernel_rfl) (by kernel_rfl) (fun _ _ _ h => h) (by (first | exact want_none rfl | exact want_some rfl rfl rfl rfl)) (fun w => by exact run_sl_h w i rfl und44 has41 rfl rfl rfl (by omega)) hS ?_
                simp only [Act.put, List.setIfInBounds_toArray, List.set_cons_zero, List.set_cons_succ]
                refine reg_free 3 (v := .slice (some ⟨ga, 0, none⟩) an ac) rfl (by kernel_rfl) (by kernel_rfl) (by kernel_rfl) (fun _ _ _ h => h) (by (first | exact want_none rfl | exact want_some rfl rfl rfl rfl)) (fun w => by go_simp) hS ?_
                simp only [Act.put, List.setIfInBounds_toArray, List.set_cons_zero, List.set_cons_succ]
                refine reg_free 4 (v := .int .i64 (i : Nat)) rfl (by kernel_rfl) (by kernel_rfl) (by kernel_rfl) (fun _ _ _ h => h) (by (first | exact want_none rfl | exact want_some rfl rfl rfl rfl)) (fun w => by go_simp) hS ?_
                simp only [Act.put, List.setIfInBounds_toArray, List.set_cons_zero, List.set_cons_succ]
                refine reg_free 5 (v := .int .i64 ((i : Int) + 1)) rfl (by kernel_rfl) (by kernel_rfl) (by kernel_rfl) (fun _ _ _ h => h) (by (first | exact want_none rfl | exact want_some rfl rfl rfl rfl)) (fun w => by go_simp) hS ?_
                simp only [Act.put, List.setIfInBounds_toArray, List.set_cons_zero, List.set_cons_succ]
                refine reg_free 6 (v := .slice (cutAt (some ⟨ga, 0, none⟩) ac (i + 1) 2) (an - (i + 1)) (ac - (i + 1))) rfl (by kernel_rfl) (by kernel_rfl) (by kernel_rfl) (fun _ _ _ h => h) (by (first | exact want_none rfl | exact want_some rfl rfl rfl rfl)) (fun w => by exact run_sl_l w (i + 1) rfl und44 size41 rfl rfl (by omega) (by omega)) hS ?_
                simp only [Act.put, List.setIfInBounds_toArray, List.set_cons_zero, List.set_cons_succ]
                refine reg_step 7 (by kernel_rfl) rfl ?_
                apply tb_del (i := i) (n := an) (c := ac) (g := ga) (cells := ca) (F := cs.flatMap ctc) (ht := sl44) (hM := hM) (hp := by (first | exact .head _ _ | exact .tail (.head _ _) | exact .tail (.tail (.head _ _)) | exact .tail (.tail (.tail (.head _ _))) | exact .tail (.tail (.tail (.tail (.head _ _)))))) (hi := hian) (hk := by decide) (hF := by rw [flat_len ctc 2 (ctc_len _), ← han.out]) (h1 := ctc_one hM hIs) (hcz := hca.out) (hcl := hacl) (hce := hcea.out); rfl; (first | exact want_none rfl | exact want_some rfl rfl rfl rfl); rfl; rfl; rfl
                intro dc dn w8 dh dT hM1
                clear hM
                have hM := hM1
                clear hM1
                clear hS
                have hS := (show Mem B _ [] [⟨gO, #[.int .i64 ok_, .int .i64 op_, .int .i64 on_], 45, (0, 0)⟩] from (hM.swap.none.swap.sub (.cons (by (first | exact .head _ _ | exact .tail (.head _ _) | exact .tail (.tail (.head _ _)) | exact .tail (.tail (.tail (.head _ _))) | exact .tail (.tail (.tail (.tail (.head _ _)))))) (.nil _))))
                refine ⟨hS, ?_⟩
                simp only [Act.put, List.setIfInBounds_toArray, List.set_cons_zero, List.set_cons_succ]
                refine reg_free 8 (v := .slice (some ⟨ga, 0, none⟩) dn ac) rfl (by kernel_rfl) (by kernel_rfl) (by kernel_rfl) (fun _ _ _ h => h) (by (first | exact want_none rfl | exact want_some rfl rfl rfl rfl)) (fun w => by go_simp) hS ?_
                simp only [Act.put, List.setIfInBounds_toArray, List.set_cons_zero, List.set_cons_succ]
                refine reg_done (by kernel_rfl) ?_
                clear hS hwr1
                go_wp2_with (first | ((with_reducible refine wpl ?_); apply al_box (hM := hM); rfl; (first | exact want_none rfl | exact want_some rfl rfl rfl rfl); (first | (focus (go_simp; done)) | (focus (go_simp; rfl))); intro gb w1 hM1; clear hM; dsimp only [Value.cells] at hM1; have hM := hM1; clear hM1; simp only [Act.put, List.setIfInBounds_toArray, List.set_cons_zero, List.set_cons_succ]) | ((with_reducible refine wpl ?_); apply al_zero (hM := hM); rfl; (first | exact want_none rfl | exact want_some rfl rfl rfl rfl); (first | exact zero41 | exact zero45); intro gz w1 hM1; clear hM; dsimp only [Value.cells] at hM1; have hM := hM1; clear hM1; simp only [Act.put, List.setIfInBounds_toArray, List.set_cons_zero, List.set_cons_succ]) | ((with_reducible refine wpl ?_); apply ld_row (hM := hM); rfl; (first | exact want_none rfl | exact want_some rfl rfl rfl rfl); rfl; (first | exact .head _ _ | exact .tail (.head _ _) | exact .tail (.tail (.head _ _)) | exact .tail (.tail (.tail (.head _ _))) | exact .tail (.tail (.tail (.tail (.head _ _)))) | exact .tail (.tail (.tail (.tail (.tail (.head _ _)))))); (first | exact row41 | exact row45); simp only [Act.put, List.setIfInBounds_toArray, List.set_cons_zero, List.set_cons_succ]) | ((with_reducible refine wpl ?_); apply st_row (hM := hM); rfl; (first | exact want_none rfl | exact want_some rfl rfl rfl rfl); rfl; (first | (focus (go_simp; done)) | (focus (go_simp; rfl))); (first | exact .head _ _ | exact .tail (.head _ _) | exact .tail (.tail (.head _ _)) | exact .tail (.tail (.tail (.head _ _))) | exact .tail (.tail (.tail (.tail (.head _ _)))) | exact .tail (.tail (.tail (.tail (.tail (.head _ _)))))); rfl; rfl; (first | exact row41 | exact row45); intro w1 hM1; clear hM; (try simp only [List.setIfInBounds_toArray, List.set_cons_zero, List.set_cons_succ] at hM1); (try rw [tab_setInt] at hM1);  have hM := hM1; clear hM1; simp only [Act.put, List.setIfInBounds_toArray, List.set_cons_zero, List.set_cons_succ]) | ((with_reducible refine wpl ?_); apply ld_one (hM := hM); rfl; (first | exact want_none rfl | exact want_some rfl rfl rfl rfl); rfl; (first | exact .head _ _ | exact .tail (.head _ _) | exact .tail (.tail (.head _ _)) | exact .tail (.tail (.tail (.head _ _))) | exact .tail (.tail (.tail (.tail (.head _ _)))) | exact .tail (.tail (.tail (.tail (.tail (.head _ _)))))); (first | (focus (simp only [List.getElem?_toArray, List.getElem?_cons_zero, List.getElem?_cons_succ]; rfl)) | exact tab_get (by omega) | rfl); (first | exact one3 | exact one39); simp only [Act.put, List.setIfInBounds_toArray, List.set_cons_zero, List.set_cons_succ]) | ((with_reducible refine wpl ?_); apply st_cell (hM := hM); rfl; (first | exact want_none rfl | exact want_some rfl rfl rfl rfl); rfl; (first | (focus (go_simp; done)) | (focus (go_simp; rfl))); (first | exact .head _ _ | exact .tail (.head _ _) | exact .tail (.tail (.head _ _)) | exact .tail (.tail (.tail (.head _ _))) | exact .tail (.tail (.tail (.tail (.head _ _)))) | exact .tail (.tail (.tail (.tail (.tail (.head _ _)))))); (first | (focus (simp; done)) | (focus (rw [tab_size]; omega))); rfl; (first | exact one3 | exact one39); intro w1 hM1; clear hM; (try simp only [List.setIfInBounds_toArray, List.set_cons_zero, List.set_cons_succ] at hM1); (try rw [tab_setInt] at hM1);  have hM := hM1; clear hM1; simp only [Act.put, List.setIfInBounds_toArray, List.set_cons_zero, List.set_cons_succ]))
                have hTa2 := dT
                rw [flat_erase ctc 2 (ctc_len _)] at hTa2
                have hM2 := hM.sub (.cons (show Pick _ ⟨ga, dc, 41, (0, 0)⟩ _ by (first | exact .head _ _ | exact .tail (.head _ _) | exact .tail (.tail (.head _ _)) | exact .tail (.tail (.tail (.head _ _))) | exact .tail (.tail (.tail (.tail (.head _ _)))) | exact .tail (.tail (.tail (.tail (.tail (.head _ _))))) | exact .tail (.tail (.tail (.tail (.tail (.tail (.head _ _)))))))) (.nil _))
                clear dT
                go_meet
                exact ⟨s2, B, cs.eraseIdx i, _, _, rfl, hle, hc2, fun d hd => hIs d (List.mem_of_mem_eraseIdx hd), hid_ (by have h1 := hlenc.out; have h2 := hjl.out; omega), hid_ (fun d hd => by have := hdl.out d (List.mem_of_mem_eraseIdx hd); omega), hTa2, hM2⟩
            have s0 : (ok_.tmod 4 == 0) = false := beq_eq_false_iff_ne.2 (by omega)
            have s1 : (ok_.tmod 4 == 1) = false := beq_eq_false_iff_ne.2 (by omega)
            have s2 : (ok_.tmod 4 == 2) = false := beq_eq_false_iff_ne.2 (by omega)
            as_aux_lemma =>
              go_wp2_with (first | ((with_reducible refine wpl ?_); apply al_box (hM := hM); rfl; (first | exact want_none rfl | exact want_some rfl rfl rfl rfl); (first | (focus (go_simp; done)) | (focus (go_simp; rfl))); intro gb w1 hM1; clear hM; dsimp only [Value.cells] at hM1; have hM := hM1; clear hM1; simp only [Act.put, List.setIfInBounds_toArray, List.set_cons_zero, List.set_cons_succ]) | ((with_reducible refine wpl ?_); apply al_zero (hM := hM); rfl; (first | exact want_none rfl | exact want_some rfl rfl rfl rfl); (first | exact zero41 | exact zero45); intro gz w1 hM1; clear hM; dsimp only [Value.cells] at hM1; have hM := hM1; clear hM1; simp only [Act.put, List.setIfInBounds_toArray, List.set_cons_zero, List.set_cons_succ]) | ((with_reducible refine wpl ?_); apply ld_row (hM := hM); rfl; (first | exact want_none rfl | exact want_some rfl rfl rfl rfl); rfl; (first | exact .head _ _ | exact .tail (.head _ _) | exact .tail (.tail (.head _ _)) | exact .tail (.tail (.tail (.head _ _))) | exact .tail (.tail (.tail (.tail (.head _ _)))) | exact .tail (.tail (.tail (.tail (.tail (.head _ _)))))); (first | exact row41 | exact row45); simp only [Act.put, List.setIfInBounds_toArray, List.set_cons_zero, List.set_cons_succ]) | ((with_reducible refine wpl ?_); apply st_row (hM := hM); rfl; (first | exact want_none rfl | exact want_some rfl rfl rfl rfl); rfl; (first | (focus (go_simp; done)) | (focus (go_simp; rfl))); (first | exact .head _ _ | exact .tail (.head _ _) | exact .tail (.tail (.head _ _)) | exact .tail (.tail (.tail (.head _ _))) | exact .tail (.tail (.tail (.tail (.head _ _)))) | exact .tail (.tail (.tail (.tail (.tail (.head _ _)))))); rfl; rfl; (first | exact row41 | exact row45); intro w1 hM1; clear hM; (try simp only [List.setIfInBounds_toArray, List.set_cons_zero, List.set_cons_succ] at hM1); (try rw [tab_setInt] at hM1);  have hM := hM1; clear hM1; simp only [Act.put, List.setIfInBounds_toArray, List.set_cons_zero, List.set_cons_succ]) | ((with_reducible refine wpl ?_); apply ld_one (hM := hM); rfl; (first | exact want_none rfl | exact want_some rfl rfl rfl rfl); rfl; (first | exact .head _ _ | exact .tail (.head _ _) | exact .tail (.tail (.head _ _)) | exact .tail (.tail (.tail (.head _ _))) | exact .tail (.tail (.tail (.tail (.head _ _)))) | exact .tail (.tail (.tail (.tail (.tail (.head _ _)))))); (first | (focus (simp only [List.getElem?_toArray, List.getElem?_cons_zero, List.getElem?_cons_succ]; rfl)) | exact tab_get (by omega) | rfl); (first | exact one3 | exact one39); simp only [Act.put, List.setIfInBounds_toArray, List.set_cons_zero, List.set_cons_succ]) | ((with_reducible refine wpl ?_); apply st_cell (hM := hM); rfl; (first | exact want_none rfl | exact want_some rfl rfl rfl rfl); rfl; (first | (focus (go_simp; done)) | (focus (go_simp; rfl))); (first | exact .head _ _ | exact .tail (.head _ _) | exact .tail (.tail (.head _ _)) | exact .tail (.tail (.tail (.head _ _))) | exact .tail (.tail (.tail (.tail (.head _ _)))) | exact .tail (.tail (.tail (.tail (.tail (.head _ _)))))); (first | (focus (simp; done)) | (focus (rw [tab_size]; omega))); rfl; (first | exact one3 | exact one39); intro w1 hM1; clear hM; (try simp only [List.setIfInBounds_toArray, List.set_cons_zero, List.set_cons_succ] at hM1); (try rw [tab_setInt] at hM1);  have hM := hM1; clear hM1; simp only [Act.put, List.setIfInBounds_toArray, List.set_cons_zero, List.set_cons_succ]))
              go_meet
              exact ⟨ss, B, cs, _, _, rfl, hle, hcs, hIs, hid_ (by have := hjl.out; omega), hid_ (fun d hd => by have := hdl.out d hd; omega), hTa, hM.tail⟩
          case rest =>
            as_aux_lemma =>
              obtain ⟨s6, B6, cs6, va6, Ra6, rfl, hle6, hcs6, hIs6, hjl6, hdl6, hTa6, hM6⟩ := hcut
              clear hM hTa hcs hIs hjl hdl hle hca hcea hacl t3 t4 hrec hpm hi hian hi0 hi1 hanb hn1i hn1 hics han hfa
              have hM := hM6
              clear hM6
              obtain ⟨ab6, an6, ac6, rfl, hF6⟩ := hTa6.slice
              have han6 : Hid (an6 = cs6.length) := hid_ (by rw [flat_len ctc 2 (ctc_len _)] at hF6; omega)
              clear hF6
              have han6b : an6 ≤ 60 := by have h1 := han6.out; have h2 := hjl6.out; omega
              go_wp2_with (first | ((with_reducible refine wpl ?_); apply mp_make (hM := hM); rfl; (first | exact want_none rfl | exact want_some rfl rfl rfl rfl); intro gm w1 hne hE hM1; clear hM; have hM := hM1; clear hM1; simp only [Act.put, List.setIfInBounds_toArray, List.set_cons_zero, List.set_cons_succ]) | ((with_reducible refine wpl ?_); apply al_box (hM := hM); rfl; (first | exact want_none rfl | exact want_some rfl rfl rfl rfl); (first | (focus (go_simp; done)) | (focus (go_simp; rfl))); intro gb w1 hM1; clear hM; dsimp only [Value.cells] at hM1; have hM := hM1; clear hM1; simp only [Act.put, List.setIfInBounds_toArray, List.set_cons_zero, List.set_cons_succ]) | ((with_reducible refine wpl ?_); apply al_zero (hM := hM); rfl; (first | exact want_none rfl | exact want_some rfl rfl rfl rfl); (first | exact zero41 | exact zero45); intro gz w1 hM1; clear hM; dsimp only [Value.cells] at hM1; have hM := hM1; clear hM1; simp only [Act.put, List.setIfInBounds_toArray, List.set_cons_zero, List.set_cons_succ]) | ((with_reducible refine wpl ?_); apply ld_row (hM := hM); rfl; (first | exact want_none rfl | exact want_some rfl rfl rfl rfl); rfl; (first | exact .head _ _ | exact .tail (.head _ _) | exact .tail (.tail (.head _ _)) | exact .tail (.tail (.tail (.head _ _))) | exact .tail (.tail (.tail (.tail (.head _ _)))) | exact .tail (.tail (.tail (.tail (.tail (.head _ _)))))); (first | exact row41 | exact row45); simp only [Act.put, List.setIfInBounds_toArray, List.set_cons_zero, List.set_cons_succ]) | ((with_reducible refine wpl ?_); apply st_row (hM := hM); rfl; (first | exact want_none rfl | exact want_some rfl rfl rfl rfl); rfl; (first | (focus (go_simp; done)) | (focus (go_simp; rfl))); (first | exact .head _ _ | exact .tail (.head _ _) | exact .tail (.tail (.head _ _)) | exact .tail (.tail (.tail (.head _ _))) | exact .tail (.tail (.tail (.tail (.head _ _)))) | exact .tail (.tail (.tail (.tail (.tail (.head _ _)))))); rfl; rfl; (first | exact row41 | exact row45); intro w1 hM1; clear hM; (try simp only [List.setIfInBounds_toArray, List.set_cons_zero, List.set_cons_succ] at hM1); (try rw [tab_setInt] at hM1);  have hM := hM1; clear hM1; simp only [Act.put, List.setIfInBounds_toArray, List.set_cons_zero, List.set_cons_succ]) | ((with_reducible refine wpl ?_); apply ld_one (hM := hM); rfl; (first | exact want_none rfl | exact want_some rfl rfl rfl rfl); rfl; (first | exact .head _ _ | exact .tail (.head _ _) | exact .tail (.tail (.head _ _)) | exact .tail (.tail (.tail (.head _ _))) | exact .tail (.tail (.tail (.tail (.head _ _)))) | exact .tail (.tail (.tail (.tail (.tail (.head _ _)))))); (first | (focus (simp only [List.getElem?_toArray, List.getElem?_cons_zero, List.getElem?_cons_succ]; rfl)) | exact tab_get (by omega) | rfl); (first | exact one3 | exact one39); simp only [Act.put, List.setIfInBounds_toArray, List.set_cons_zero, List.set_cons_succ]) | ((with_reducible refine wpl ?_); apply st_cell (hM := hM); rfl; (first | exact want_none rfl | exact want_some rfl rfl rfl rfl); rfl; (first | (focus (go_simp; done)) | (focus (go_simp; rfl))); (first | exact .head _ _ | exact .tail (.head _ _) | exact .tail (.tail (.head _ _)) | exact .tail (.tail (.tail (.head _ _))) | exact .tail (.tail (.tail (.tail (.head _ _)))) | exact .tail (.tail (.tail (.tail (.tail (.head _ _)))))); (first | (focus (simp; done)) | (focus (rw [tab_size]; omega))); rfl; (first | exact one3 | exact one39); intro w1 hM1; clear hM; (try simp only [List.setIfInBounds_toArray, List.set_cons_zero, List.set_cons_succ] at hM1); (try rw [tab_setInt] at hM1);  have hM := hM1; clear hM1; simp only [Act.put, List.setIfInBounds_toArray, List.set_cons_zero, List.set_cons_succ]))
              go_loopw [156] (fun xi wr => ∃ (i : Nat) (es : Array MapEntry) (clk : Nat) (E : List (Int × Value)), i ≤ an6 ∧ xi = .int .i64 i ∧ IsM es clk E ∧ Cn_ E (fun id => tot (cs6.take i) id) ∧ Mem ⟨B6.w, (gm, .map es clk) :: B6.ms⟩ wr (arena p s6) Ra6) (fun xi _ => an6 - (intOf xi).toNat)
              case atStart => exact ⟨0, _, _, [], Nat.zero_le _, by go_num, hE, Cn_.nil (fun id => by simp [tot]), hM⟩
              case round =>
                obtain ⟨i, es, clk, E, hi, rfl, hE1, hCn, hMr⟩ := hrel
                clear hM hE
                have hM := hMr
                have hE := hE1
                clear hMr hE1
                by_cases hlt2 : i < an6
                · as_aux_lemma =>
                    as_aux_lemma =>
                      have hn1 : 0 < an6 := by omega
                      obtain ⟨ga, ca, rfl, rfl, hca, hacl, hcea⟩ := hTa6.inv hn1
                      have hics : i < cs6.length := by have := han6.out; omega
                      have hi0 : (0 : Int) ≤ (i : Int) := by omega
                      have hi1 : (i : Int) < (an6 : Int) := by omega
                      obtain ⟨ci, hci⟩ : ∃ c, Hid (c = cs6[i]) := ⟨_, hid_ rfl⟩
                      have hmem : ci ∈ cs6 := by rw [hci.out]; exact List.getElem_mem _
                      have hela : Hid (∀ q v, (ctc ci)[q]? = some v → ca[i * 2 + q]? = some v) := hid_ (fun u v hu => by
                        have h1 : u < 2 := (List.getElem?_eq_some_iff.1 hu).1
                        rw [hcea.out _ (by omega), flat_at ctc 2 (ctc_len _) hics u h1, ← hci.out]
                        exact hu)
                      have hIx := hIs6 _ hmem
                      have hlL := hcs6.len _ hmem
                      have hbl := hdl6.out _ hmem
                      have htt : Hid (∀ id, tot (cs6.take (i + 1)) id = tot (cs6.take i) id + ci.L.count id) := hid_ (fun id => by rw [tot_take cs6 hics, hci.out])
                      have htk : Hid (∀ id, tot (cs6.take i) id ≤ 30000) := hid_ (fun id => by
                        have h1 := tot_le (cs := cs6.take i) (k := 300) (fun c hc => by
                          have hc' := List.mem_of_mem_take hc
                          have h2 := hcs6.len c hc'
                          have h3 := hdl6.out c hc'
                          unfold nd at h2
                          omega) id
                        have h4 := hjl6.out
                        rw [List.length_take] at h1
                        omega)
                      obtain ⟨x, L, b⟩ := ci
                      obtain ⟨xa, xk, hxx⟩ := (hIx _ _ _ ((Le.park gm (.map es clk)).mem hM)).len
                      simp only at hxx hlL hbl
                      subst hxx
                      have hela : Hid (∀ q v, [Value.slice xa L.length xk, .int .i64 (b.length : Nat)][q]? = some v → ca[i * 2 + q]? = some v) := hela
                      replace htt : Hid (∀ id, tot (cs6.take (i + 1)) id = tot (cs6.take i) id + L.count id) := htt
                      have hIx : IdsAt B6 (.slice xa L.length xk) L := hIx
                      have hLb : L.length ≤ 300 := by unfold nd at hlL; omega
                      clear hlL
                      go_wp2_with (first | ((with_reducible refine wpl ?_); apply ld_at (hM := hM) [.slice xa L.length xk, .int .i64 (b.length : Nat)]; rfl; (first | exact want_none rfl | exact want_some rfl rfl rfl rfl); rfl; (first | exact .head _ _ | exact .tail (.head _ _) | exact .tail (.tail (.head _ _)) | exact .tail (.tail (.tail (.head _ _))) | exact .tail (.tail (.tail (.tail (.head _ _))))); exact hela.out; exact row41; simp only [Act.put, List.setIfInBounds_toArray, List.set_cons_zero, List.set_cons_succ]) | ((with_reducible refine wpl ?_); apply al_box (hM := hM); rfl; (first | exact want_none rfl | exact want_some rfl rfl rfl rfl); (first | (focus (go_simp; done)) | (focus (go_simp; rfl))); intro gb w1 hM1; clear hM; dsimp only [Value.cells] at hM1; have hM := hM1; clear hM1; simp only [Act.put, List.setIfInBounds_toArray, List.set_cons_zero, List.set_cons_succ]) | ((with_reducible refine wpl ?_); apply al_zero (hM := hM); rfl; (first | exact want_none rfl | exact want_some rfl rfl rfl rfl); (first | exact zero41 | exact zero45); intro gz w1 hM1; clear hM; dsimp only [Value.cells] at hM1; have hM := hM1; clear hM1; simp only [Act.put, List.setIfInBounds_toArray, List.set_cons_zero, List.set_cons_succ]) | ((with_reducible refine wpl ?_); apply ld_row (hM := hM); rfl; (first | exact want_none rfl | exact want_some rfl rfl rfl rfl); rfl; (first | exact .head _ _ | exact .tail (.head _ _) | exact .tail (.tail (.head _ _)) | exact .tail (.tail (.tail (.head _ _))) | exact .tail (.tail (.tail (.tail (.head _ _)))) | exact .tail (.tail (.tail (.tail (.tail (.head _ _)))))); (first | exact row41 | exact row45); simp only [Act.put, List.setIfInBounds_toArray, List.set_cons_zero, List.set_cons_succ]) | ((with_reducible refine wpl ?_); apply st_row (hM := hM); rfl; (first | exact want_none rfl | exact want_some rfl rfl rfl rfl); rfl; (first | (focus (go_simp; done)) | (focus (go_simp; rfl))); (first | exact .head _ _ | exact .tail (.head _ _) | exact .tail (.tail (.head _ _)) | exact .tail (.tail (.tail (.head _ _))) | exact .tail (.tail (.tail (.tail (.head _ _)))) | exact .tail (.tail (.tail (.tail (.tail (.head _ _)))))); rfl; rfl; (first | exact row41 | exact row45); intro w1 hM1; clear hM; (try simp only [List.setIfInBounds_toArray, List.set_cons_zero, List.set_cons_succ] at hM1); (try rw [tab_setInt] at hM1);  have hM := hM1; clear hM1; simp only [Act.put, List.setIfInBounds_toArray, List.set_cons_zero, List.set_cons_succ]) | ((with_reducible refine wpl ?_); apply ld_one (hM := hM); rfl; (first | exact want_none rfl | exact want_some rfl rfl rfl rfl); rfl; (first | exact .head _ _ | exact .tail (.head _ _) | exact .tail (.tail (.head _ _)) | exact .tail (.tail (.tail (.head _ _))) | exact .tail (.tail (.tail (.tail (.head _ _)))) | exact .tail (.tail (.tail (.tail (.tail (.head _ _)))))); (first | (focus (simp only [List.getElem?_toArray, List.getElem?_cons_zero, List.getElem?_cons_succ]; rfl)) | exact tab_get (by omega) | rfl); (first | exact one3 | exact one39); simp only [Act.put, List.setIfInBounds_toArray, List.set_cons_zero, List.set_cons_succ]) | ((with_reducible refine wpl ?_); apply st_cell (hM := hM); rfl; (first | exact want_none rfl | exact want_some rfl rfl rfl rfl); rfl; (first | (focus (go_simp; done)) | (focus (go_simp; rfl))); (first | exact .head _ _ | exact .tail (.head _ _) | exact .tail (.tail (.head _ _)) | exact .tail (.tail (.tail (.head _ _))) | exact .tail (.tail (.tail (.tail (.head _ _)))) | exact .tail (.tail (.tail (.tail (.tail (.head _ _)))))); (first | (focus (simp; done)) | (focus (rw [tab_size]; omega))); rfl; (first | exact one3 | exact one39); intro w1 hM1; clear hM; (try simp only [List.setIfInBounds_toArray, List.set_cons_zero, List.set_cons_succ] at hM1); (try rw [tab_setInt] at hM1);  have hM := hM1; clear hM1; simp only [Act.put, List.setIfInBounds_toArray, List.set_cons_zero, List.set_cons_succ]))
                      obtain ⟨gC, rfl⟩ : ∃ g : Nat, g = gz := ⟨_, rfl⟩
                      go_loopw [163] (fun xq wr => ∃ (q : Nat) (es : Array MapEntry) (clk : Nat) (E : List (Int × Value)), q ≤ L.length ∧ xq = .int .i64 q ∧ IsM es clk E ∧ Cn_ E (fun id => tot (cs6.take i) id + (L.take q).count id) ∧ Mem ⟨B6.w, (gm, .map es clk) :: B6.ms⟩ wr (arena p s6) [⟨gC, #[.slice xa L.length xk, .int .i64 (b.length : Nat)], 41, (0, 0)⟩, ⟨ga, ca, 41, (0, 0)⟩]) (fun xq _ => L.length - (intOf xq).toNat)
                      case atStart => exact ⟨0, es, clk, E, Nat.zero_le _, by go_num, hE, hCn.congr (fun id => by simp), hM⟩
                      case round =>
                        obtain ⟨q, es, clk, E, hq3, rfl, hE1, hCn1, hMr⟩ := hrel
                        clear hM hE hCn
                        have hM := hMr
                        have hE := hE1
                        have hCn := hCn1
                        clear hMr hE1 hCn1
                        by_cases hlt3 : q < L.length
                        · as_aux_lemma =>
                            have hIm : IdsAt ⟨B6.w, (gm, .map es clk) :: B6.ms⟩ (.slice xa L.length xk) L := hIx.le (Le.park gm _)
                            obtain ⟨a0, rfl, hcl⟩ := Ints.cell (hIm _ _ _ hM) hlt3
                            clear hcl
                            obtain ⟨id, hid⟩ : ∃ id, Hid (L[q]? = some id) := ⟨_, hid_ (List.getElem?_eq_getElem hlt3)⟩
                            have hidq : Hid (id = L[q]) := hid_ (by have h1 := hid.out; rw [List.getElem?_eq_getElem hlt3] at h1; exact (Option.some.inj h1).symm)
                            have hstep : Hid (∀ j, tot (cs6.take i) j + (L.take (q + 1)).count j = tot (cs6.take i) j + (L.take q).count j + if j = id then 1 else 0) := hid_ (fun j => by rw [count_take hlt3, hidq.out, Nat.add_assoc])
                            by_cases hz0 : tot (cs6.take i) id + (L.take q).count id = 0
                            · as_aux_lemma =>
                                replace hz0 := hid_ hz0
                                go_wp2_with (first | ((with_reducible refine wpl ?_); apply ld_ids (hM := hM) (hI := hIm) (i := q) (hi := hid.out); rfl; (first | exact want_none rfl | exact want_some rfl rfl rfl rfl); rfl; exact one3; simp only [Act.put, List.setIfInBounds_toArray, List.set_cons_zero, List.set_cons_succ]) | ((with_reducible refine wpl ?_); apply mp_look_no (hM := hM) (hE := hE) (k := (id : Nat)) (hk := hCn.no hz0.out) (ht := und48) (hkt := und3) (hz := zero3); rfl; (first | exact want_none rfl | exact want_some rfl rfl rfl rfl); rfl; rfl; simp only [Act.put, List.setIfInBounds_toArray, List.set_cons_zero, List.set_cons_succ]) | ((with_reducible refine wpl ?_); apply mp_new (hM := hM) (hne := hne) (hE := hE) (k := (id : Nat)) (v := .int .i64 1) (hk := hCn.no hz0.out) (ht := und48) (hkt := und3); rfl; (first | exact want_none rfl | exact want_some rfl rfl rfl rfl); rfl; rfl; rfl; intro es2 clk2 w1 hE2 hM1; clear hM; have hM := hM1; clear hM1; simp only [Act.put, List.setIfInBounds_toArray, List.set_cons_zero, List.set_cons_succ]) | ((with_reducible refine wpl ?_); apply al_box (hM := hM); rfl; (first | exact want_none rfl | exact want_some rfl rfl rfl rfl); (first | (focus (go_simp; done)) | (focus (go_simp; rfl))); intro gb w1 hM1; clear hM; dsimp only [Value.cells] at hM1; have hM := hM1; clear hM1; simp only [Act.put, List.setIfInBounds_toArray, List.set_cons_zero, List.set_cons_succ]) | ((with_reducible refine wpl ?_); apply al_zero (hM := hM); rfl; (first | exact want_none rfl | exact want_some rfl rfl rfl rfl); (first | exact zero41 | exact zero45); intro gz w1 hM1; clear hM; dsimp only [Value.cells] at hM1; have hM := hM1; clear hM1; simp only [Act.put, List.setIfInBounds_toArray, List.set_cons_zero, List.set_cons_succ]) | ((with_reducible refine wpl ?_); apply ld_row (hM := hM); rfl; (first | exact want_none rfl | exact want_some rfl rfl rfl rfl); rfl; (first | exact .head _ _ | exact .tail (.head _ _) | exact .tail (.tail (.head _ _)) | exact .tail (.tail (.tail (.head _ _))) | exact .tail (.tail (.tail (.tail (.head _ _)))) | exact .tail (.tail (.tail (.tail (.tail (.head _ _)))))); (first | exact row41 | exact row45); simp only [Act.put, List.setIfInBounds_toArray, List.set_cons_zero, List.set_cons_succ]) | ((with_reducible refine wpl ?_); apply st_row (hM := hM); rfl; (first | exact want_none rfl | exact want_some rfl rfl rfl rfl); rfl; (first | (focus (go_simp; done)) | (focus (go_simp; rfl))); (first | exact .head _ _ | exact .tail (.head _ _) | exact .tail (.tail (.head _ _)) | exact .tail (.tail (.tail (.head _ _))) | exact .tail (.tail (.tail (.tail (.head _ _)))) | exact .tail (.tail (.tail (.tail (.tail (.head _ _)))))); rfl; rfl; (first | exact row41 | exact row45); intro w1 hM1; clear hM; (try simp only [List.setIfInBounds_toArray, List.set_cons_zero, List.set_cons_succ] at hM1); (try rw [tab_setInt] at hM1);  have hM := hM1; clear hM1; simp only [Act.put, List.setIfInBounds_toArray, List.set_cons_zero, List.set_cons_succ]) | ((with_reducible refine wpl ?_); apply ld_one (hM := hM); rfl; (first | exact want_none rfl | exact want_some rfl rfl rfl rfl); rfl; (first | exact .head _ _ | exact .tail (.head _ _) | exact .tail (.tail (.head _ _)) | exact .tail (.tail (.tail (.head _ _))) | exact .tail (.tail (.tail (.tail (.head _ _)))) | exact .tail (.tail (.tail (.tail (.tail (.head _ _)))))); (first | (focus (simp only [List.getElem?_toArray, List.getElem?_cons_zero, List.getElem?_cons_succ]; rfl)) | exact tab_get (by omega) | rfl); (first | exact one3 | exact one39); simp only [Act.put, List.setIfInBounds_toArray, List.set_cons_zero, List.set_cons_succ]) | ((with_reducible refine wpl ?_); apply st_cell (hM := hM); rfl; (first | exact want_none rfl | exact want_some rfl rfl rfl rfl); rfl; (first | (focus (go_simp; done)) | (focus (go_simp; rfl))); (first | exact .head _ _ | exact .tail (.head _ _) | exact .tail (.tail (.head _ _)) | exact .tail (.tail (.tail (.head _ _))) | exact .tail (.tail (.tail (.tail (.head _ _)))) | exact .tail (.tail (.tail (.tail (.tail (.head _ _)))))); (first | (focus (simp; done)) | (focus (rw [tab_size]; omega))); rfl; (first | exact one3 | exact one39); intro w1 hM1; clear hM; (try simp only [List.setIfInBounds_toArray, List.set_cons_zero, List.set_cons_succ] at hM1); (try rw [tab_setInt] at hM1);  have hM := hM1; clear hM1; simp only [Act.put, List.setIfInBounds_toArray, List.set_cons_zero, List.set_cons_succ]))
                                go_roundw
                                case rel => exact ⟨q + 1, es2, clk2, _, by omega, by go_num, hE2, hCn.new hz0.out hstep.out, hM⟩
                                case measure => simp [intOf]; omega
                            · as_aux_lemma =>
                                obtain ⟨cz, hcz⟩ : ∃ cz, Hid (cz = tot (cs6.take i) id + (L.take q).count id) := ⟨_, hid_ rfl⟩
                                have hhas : Hid (((id : Int), Value.int .i64 (cz : Nat)) ∈ E) := hid_ (by have := hCn.has id (by omega); rw [hcz.out]; exact this)
                                have hczb : cz ≤ 1000000 := by
                                  have h1 : (L.take q).count id ≤ q := Nat.le_trans List.count_le_length (by rw [List.length_take]; omega)
                                  have h2 := htk.out id
                                  have h3 := hcz.out
                                  omega
                                clear hz0
                                have hwz : IntKind.i64.wrap ((cz : Int) + 1) = (cz : Int) + 1 := IntWalk.i64_in _ (by omega)
                                go_wp2_with (first | ((with_reducible refine wpl ?_); apply ld_ids (hM := hM) (hI := hIm) (i := q) (hi := hid.out); rfl; (first | exact want_none rfl | exact want_some rfl rfl rfl rfl); rfl; exact one3; simp only [Act.put, List.setIfInBounds_toArray, List.set_cons_zero, List.set_cons_succ]) | ((with_reducible refine wpl ?_); apply mp_look (hM := hM) (hE := hE) (k := (id : Nat)) (v := .int .i64 (cz : Nat)) (hk := hhas.out) (ht := und48) (hkt := und3); rfl; (first | exact want_none rfl | exact want_some rfl rfl rfl rfl); rfl; rfl; simp only [Act.put, List.setIfInBounds_toArray, List.set_cons_zero, List.set_cons_succ]) | ((with_reducible refine wpl ?_); apply mp_old (hM := hM) (hne := hne) (hE := hE) (k := (id : Nat)) (u := .int .i64 (cz : Nat)) (v := .int .i64 ((cz : Int) + 1)) (hk := hhas.out) (ht := und48) (hkt := und3); rfl; (first | exact want_none rfl | exact want_some rfl rfl rfl rfl); rfl; rfl; rfl; intro es2 clk2 w1 qi hqi hE2 hM1; clear hM; have hM := hM1; clear hM1; simp only [Act.put, List.setIfInBounds_toArray, List.set_cons_zero, List.set_cons_succ]) | ((with_reducible refine wpl ?_); apply al_box (hM := hM); rfl; (first | exact want_none rfl | exact want_some rfl rfl rfl rfl); (first | (focus (go_simp; done)) | (focus (go_simp; rfl))); intro gb w1 hM1; clear hM; dsimp only [Value.cells] at hM1; have hM := hM1; clear hM1; simp only [Act.put, List.setIfInBounds_toArray, List.set_cons_zero, List.set_cons_succ]) | ((with_reducible refine wpl ?_); apply al_zero (hM := hM); rfl; (first | exact want_none rfl | exact want_some rfl rfl rfl rfl); (first | exact zero41 | exact zero45); intro gz w1 hM1; clear hM; dsimp only [Value.cells] at hM1; have hM := hM1; clear hM1; simp only [Act.put, List.setIfInBounds_toArray, List.set_cons_zero, List.set_cons_succ]) | ((with_reducible refine wpl ?_); apply ld_row (hM := hM); rfl; (first | exact want_none rfl | exact want_some rfl rfl rfl rfl); rfl; (first | exact .head _ _ | exact .tail (.head _ _) | exact .tail (.tail (.head _ _)) | exact .tail (.tail (.tail (.head _ _))) | exact .tail (.tail (.tail (.tail (.head _ _)))) | exact .tail (.tail (.tail (.tail (.tail (.head _ _)))))); (first | exact row41 | exact row45); simp only [Act.put, List.setIfInBounds_toArray, List.set_cons_zero, List.set_cons_succ]) | ((with_reducible refine wpl ?_); apply st_row (hM := hM); rfl; (first | exact want_none rfl | exact want_some rfl rfl rfl rfl); rfl; (first | (focus (go_simp; done)) | (focus (go_simp; rfl))); (first | exact .head _ _ | exact .tail (.head _ _) | exact .tail (.tail (.head _ _)) | exact .tail (.tail (.tail (.head _ _))) | exact .tail (.tail (.tail (.tail (.head _ _)))) | exact .tail (.tail (.tail (.tail (.tail (.head _ _)))))); rfl; rfl; (first | exact row41 | exact row45); intro w1 hM1; clear hM; (try simp only [List.setIfInBounds_toArray, List.set_cons_zero, List.set_cons_succ] at hM1); (try rw [tab_setInt] at hM1);  have hM := hM1; clear hM1; simp only [Act.put, List.setIfInBounds_toArray, List.set_cons_zero, List.set_cons_succ]) | ((with_reducible refine wpl ?_); apply ld_one (hM := hM); rfl; (first | exact want_none rfl | exact want_some rfl rfl rfl rfl); rfl; (first | exact .head _ _ | exact .tail (.head _ _) | exact .tail (.tail (.head _ _)) | exact .tail (.tail (.tail (.head _ _))) | exact .tail (.tail (.tail (.tail (.head _ _)))) | exact .tail (.tail (.tail (.tail (.tail (.head _ _)))))); (first | (focus (simp only [List.getElem?_toArray, List.getElem?_cons_zero, List.getElem?_cons_succ]; rfl)) | exact tab_get (by omega) | rfl); (first | exact one3 | exact one39); simp only [Act.put, List.setIfInBounds_toArray, List.set_cons_zero, List.set_cons_succ]) | ((with_reducible refine wpl ?_); apply st_cell (hM := hM); rfl; (first | exact want_none rfl | exact want_some rfl rfl rfl rfl); rfl; (first | (focus (go_simp; done)) | (focus (go_simp; rfl))); (first | exact .head _ _ | exact .tail (.head _ _) | exact .tail (.tail (.head _ _)) | exact .tail (.tail (.tail (.head _ _))) | exact .tail (.tail (.tail (.tail (.head _ _)))) | exact .tail (.tail (.tail (.tail (.tail (.head _ _)))))); (first | (focus (simp; done)) | (focus (rw [tab_size]; omega))); rfl; (first | exact one3 | exact one39); intro w1 hM1; clear hM; (try simp only [List.setIfInBounds_toArray, List.set_cons_zero, List.set_cons_succ] at hM1); (try rw [tab_setInt] at hM1);  have hM := hM1; clear hM1; simp only [Act.put, List.setIfInBounds_toArray, List.set_cons_zero, List.set_cons_succ]))
                                go_roundw
                                case rel => exact ⟨q + 1, es2, clk2, _, by omega, by go_num, hE2, hCn.old hE.keys hqi hstep.out (by rw [hcz.out]; have h1 := hstep.out id; rw [if_pos rfl] at h1; simp only [h1]; rfl), hM⟩
                                case measure => simp [intOf]; omega
                        · as_aux_lemma =>
                            obtain rfl : q = L.length := by omega
                            go_wp2_with (first | ((with_reducible refine wpl ?_); apply al_box (hM := hM); rfl; (first | exact want_none rfl | exact want_some rfl rfl rfl rfl); (first | (focus (go_simp; done)) | (focus (go_simp; rfl))); intro gb w1 hM1; clear hM; dsimp only [Value.cells] at hM1; have hM := hM1; clear hM1; simp only [Act.put, List.setIfInBounds_toArray, List.set_cons_zero, List.set_cons_succ]) | ((with_reducible refine wpl ?_); apply al_zero (hM := hM); rfl; (first | exact want_none rfl | exact want_some rfl rfl rfl rfl); (first | exact zero41 | exact zero45); intro gz w1 hM1; clear hM; dsimp only [Value.cells] at hM1; have hM := hM1; clear hM1; simp only [Act.put, List.setIfInBounds_toArray, List.set_cons_zero, List.set_cons_succ]) | ((with_reducible refine wpl ?_); apply ld_row (hM := hM); rfl; (first | exact want_none rfl | exact want_some rfl rfl rfl rfl); rfl; (first | exact .head _ _ | exact .tail (.head _ _) | exact .tail (.tail (.head _ _)) | exact .tail (.tail (.tail (.head _ _))) | exact .tail (.tail (.tail (.tail (.head _ _)))) | exact .tail (.tail (.tail (.tail (.tail (.head _ _)))))); (first | exact row41 | exact row45); simp only [Act.put, List.setIfInBounds_toArray, List.set_cons_zero, List.set_cons_succ]) | ((with_reducible refine wpl ?_); apply st_row (hM := hM); rfl; (first | exact want_none rfl | exact want_some rfl rfl rfl rfl); rfl; (first | (focus (go_simp; done)) | (focus (go_simp; rfl))); (first | exact .head _ _ | exact .tail (.head _ _) | exact .tail (.tail (.head _ _)) | exact .tail (.tail (.tail (.head _ _))) | exact .tail (.tail (.tail (.tail (.head _ _)))) | exact .tail (.tail (.tail (.tail (.tail (.head _ _)))))); rfl; rfl; (first | exact row41 | exact row45); intro w1 hM1; clear hM; (try simp only [List.setIfInBounds_toArray, List.set_cons_zero, List.set_cons_succ] at hM1); (try rw [tab_setInt] at hM1);  have hM := hM1; clear hM1; simp only [Act.put, List.setIfInBounds_toArray, List.set_cons_zero, List.set_cons_succ]) | ((with_reducible refine wpl ?_); apply ld_one (hM := hM); rfl; (first | exact want_none rfl | exact want_some rfl rfl rfl rfl); rfl; (first | exact .head _ _ | exact .tail (.head _ _) | exact .tail (.tail (.head _ _)) | exact .tail (.tail (.tail (.head _ _))) | exact .tail (.tail (.tail (.tail (.head _ _)))) | exact .tail (.tail (.tail (.tail (.tail (.head _ _)))))); (first | (focus (simp only [List.getElem?_toArray, List.getElem?_cons_zero, List.getElem?_cons_succ]; rfl)) | exact tab_get (by omega) | rfl); (first | exact one3 | exact one39); simp only [Act.put, List.setIfInBounds_toArray, List.set_cons_zero, List.set_cons_succ]) | ((with_reducible refine wpl ?_); apply st_cell (hM := hM); rfl; (first | exact want_none rfl | exact want_some rfl rfl rfl rfl); rfl; (first | (focus (go_simp; done)) | (focus (go_simp; rfl))); (first | exact .head _ _ | exact .tail (.head _ _) | exact .tail (.tail (.head _ _)) | exact .tail (.tail (.tail (.head _ _))) | exact .tail (.tail (.tail (.tail (.head _ _)))) | exact .tail (.tail (.tail (.tail (.tail (.head _ _)))))); (first | (focus (simp; done)) | (focus (rw [tab_size]; omega))); rfl; (first | exact one3 | exact one39); intro w1 hM1; clear hM; (try simp only [List.setIfInBounds_toArray, List.set_cons_zero, List.set_cons_succ] at hM1); (try rw [tab_setInt] at hM1);  have hM := hM1; clear hM1; simp only [Act.put, List.setIfInBounds_toArray, List.set_cons_zero, List.set_cons_succ]))
                            go_roundw
                            case rel => exact ⟨i + 1, es, clk, E, by omega, by go_num, hE, hCn.congr (fun id => by rw [htt.out, List.take_length]), hM.tail⟩
                            case measure => simp [intOf]; omega
                · as_aux_lemma =>
                    obtain rfl : i = an6 := by omega
                    clear hi hlt2
                    replace hCn : Cn_ E (fun id => tot cs6 id) := hCn.congr (fun id => by rw [List.take_of_length_le (by have := han6.out; omega)])
                    as_aux_lemma =>
                      go_wp2_with (first | ((with_reducible refine wpl ?_); apply mp_range (hM := hM) (ht := und48); rfl; (first | exact want_none rfl | exact want_some rfl rfl rfl rfl); rfl; intro gi w1 hne2 hSn hM1; clear hM; have hM := hM1; clear hM1; simp only [Act.put, List.setIfInBounds_toArray, List.set_cons_zero, List.set_cons_succ]) | ((with_reducible refine wpl ?_); apply al_box (hM := hM); rfl; (first | exact want_none rfl | exact want_some rfl rfl rfl rfl); (first | (focus (go_simp; done)) | (focus (go_simp; rfl))); intro gb w1 hM1; clear hM; dsimp only [Value.cells] at hM1; have hM := hM1; clear hM1; simp only [Act.put, List.setIfInBounds_toArray, List.set_cons_zero, List.set_cons_succ]) | ((with_reducible refine wpl ?_); apply al_zero (hM := hM); rfl; (first | exact want_none rfl | exact want_some rfl rfl rfl rfl); (first | exact zero41 | exact zero45); intro gz w1 hM1; clear hM; dsimp only [Value.cells] at hM1; have hM := hM1; clear hM1; simp only [Act.put, List.setIfInBounds_toArray, List.set_cons_zero, List.set_cons_succ]) | ((with_reducible refine wpl ?_); apply ld_row (hM := hM); rfl; (first | exact want_none rfl | exact want_some rfl rfl rfl rfl); rfl; (first | exact .head _ _ | exact .tail (.head _ _) | exact .tail (.tail (.head _ _)) | exact .tail (.tail (.tail (.head _ _))) | exact .tail (.tail (.tail (.tail (.head _ _)))) | exact .tail (.tail (.tail (.tail (.tail (.head _ _)))))); (first | exact row41 | exact row45); simp only [Act.put, List.setIfInBounds_toArray, List.set_cons_zero, List.set_cons_succ]) | ((with_reducible refine wpl ?_); apply st_row (hM := hM); rfl; (first | exact want_none rfl | exact want_some rfl rfl rfl rfl); rfl; (first | (focus (go_simp; done)) | (focus (go_simp; rfl))); (first | exact .head _ _ | exact .tail (.head _ _) | exact .tail (.tail (.head _ _)) | exact .tail (.tail (.tail (.head _ _))) | exact .tail (.tail (.tail (.tail (.head _ _)))) | exact .tail (.tail (.tail (.tail (.tail (.head _ _)))))); rfl; rfl; (first | exact row41 | exact row45); intro w1 hM1; clear hM; (try simp only [List.setIfInBounds_toArray, List.set_cons_zero, List.set_cons_succ] at hM1); (try rw [tab_setInt] at hM1);  have hM := hM1; clear hM1; simp only [Act.put, List.setIfInBounds_toArray, List.set_cons_zero, List.set_cons_succ]) | ((with_reducible refine wpl ?_); apply ld_one (hM := hM); rfl; (first | exact want_none rfl | exact want_some rfl rfl rfl rfl); rfl; (first | exact .head _ _ | exact .tail (.head _ _) | exact .tail (.tail (.head _ _)) | exact .tail (.tail (.tail (.head _ _))) | exact .tail (.tail (.tail (.tail (.head _ _)))) | exact .tail (.tail (.tail (.tail (.tail (.head _ _)))))); (first | (focus (simp only [List.getElem?_toArray, List.getElem?_cons_zero, List.getElem?_cons_succ]; rfl)) | exact tab_get (by omega) | rfl); (first | exact one3 | exact one39); simp only [Act.put, List.setIfInBounds_toArray, List.set_cons_zero, List.set_cons_succ]) | ((with_reducible refine wpl ?_); apply st_cell (hM := hM); rfl; (first | exact want_none rfl | exact want_some rfl rfl rfl rfl); rfl; (first | (focus (go_simp; done)) | (focus (go_simp; rfl))); (first | exact .head _ _ | exact .tail (.head _ _) | exact .tail (.tail (.head _ _)) | exact .tail (.tail (.tail (.head _ _))) | exact .tail (.tail (.tail (.tail (.head _ _)))) | exact .tail (.tail (.tail (.tail (.tail (.head _ _)))))); (first | (focus (simp; done)) | (focus (rw [tab_size]; omega))); rfl; (first | exact one3 | exact one39); intro w1 hM1; clear hM; (try simp only [List.setIfInBounds_toArray, List.set_cons_zero, List.set_cons_succ] at hM1); (try rw [tab_setInt] at hM1);  have hM := hM1; clear hM1; simp only [Act.put, List.setIfInBounds_toArray, List.set_cons_zero, List.set_cons_succ]))
                      obtain ⟨gk0, rfl⟩ : ∃ g : Nat, g = gk := ⟨_, rfl⟩
                      go_loopg [] E.length (fun q wr => ∃ (V : List MapEntry) (seen : Array Nat), Hid (q + V.length = E.length) ∧ Seen es seen V ∧ Mem ⟨B6.w, (gi, .mapIter (some gm) clk seen clk) :: (gm, .map es clk) :: B6.ms⟩ wr (arena p s6) Ra6)
                      case atStart => exact ⟨[], #[], hid_ (by simp), hSn, hM⟩
                      case round =>
                        obtain ⟨V, seen, hqV, hSn1, hMr⟩ := hrel
                        clear hM hSn
                        have hM := hMr
                        have hSn := hSn1
                        clear hMr hSn1
                        by_cases hall : ∀ e ∈ es.toList, e ∈ V
                        · as_aux_lemma =>
                            go_wp2_with (first | ((with_reducible refine wpl ?_); apply mp_over (hM := hM) (hne := hne2) (hE := hE) (hS := hSn) (hall := hall); rfl; (first | exact want_none rfl | exact want_some rfl rfl rfl rfl); rfl; intro w1 hM1; clear hM; have hM := hM1; clear hM1; simp only [Act.put, List.setIfInBounds_toArray, List.set_cons_zero, List.set_cons_succ]) | ((with_reducible refine wpl ?_); apply al_box (hM := hM); rfl; (first | exact want_none rfl | exact want_some rfl rfl rfl rfl); (first | (focus (go_simp; done)) | (focus (go_simp; rfl))); intro gb w1 hM1; clear hM; dsimp only [Value.cells] at hM1; have hM := hM1; clear hM1; simp only [Act.put, List.setIfInBounds_toArray, List.set_cons_zero, List.set_cons_succ]) | ((with_reducible refine wpl ?_); apply al_zero (hM := hM); rfl; (first | exact want_none rfl | exact want_some rfl rfl rfl rfl); (first | exact zero41 | exact zero45); intro gz w1 hM1; clear hM; dsimp only [Value.cells] at hM1; have hM := hM1; clear hM1; simp only [Act.put, List.setIfInBounds_toArray, List.set_cons_zero, List.set_cons_succ]) | ((with_reducible refine wpl ?_); apply ld_row (hM := hM); rfl; (first | exact want_none rfl | exact want_some rfl rfl rfl rfl); rfl; (first | exact .head _ _ | exact .tail (.head _ _) | exact .tail (.tail (.head _ _)) | exact .tail (.tail (.tail (.head _ _))) | exact .tail (.tail (.tail (.tail (.head _ _)))) | exact .tail (.tail (.tail (.tail (.tail (.head _ _)))))); (first | exact row41 | exact row45); simp only [Act.put, List.setIfInBounds_toArray, List.set_cons_zero, List.set_cons_succ]) | ((with_reducible refine wpl ?_); apply st_row (hM := hM); rfl; (first | exact want_none rfl | exact want_some rfl rfl rfl rfl); rfl; (first | (focus (go_simp; done)) | (focus (go_simp; rfl))); (first | exact .head _ _ | exact .tail (.head _ _) | exact .tail (.tail (.head _ _)) | exact .tail (.tail (.tail (.head _ _))) | exact .tail (.tail (.tail (.tail (.head _ _)))) | exact .tail (.tail (.tail (.tail (.tail (.head _ _)))))); rfl; rfl; (first | exact row41 | exact row45); intro w1 hM1; clear hM; (try simp only [List.setIfInBounds_toArray, List.set_cons_zero, List.set_cons_succ] at hM1); (try rw [tab_setInt] at hM1);  have hM := hM1; clear hM1; simp only [Act.put, List.setIfInBounds_toArray, List.set_cons_zero, List.set_cons_succ]) | ((with_reducible refine wpl ?_); apply ld_one (hM := hM); rfl; (first | exact want_none rfl | exact want_some rfl rfl rfl rfl); rfl; (first | exact .head _ _ | exact .tail (.head _ _) | exact .tail (.tail (.head _ _)) | exact .tail (.tail (.tail (.head _ _))) | exact .tail (.tail (.tail (.tail (.head _ _)))) | exact .tail (.tail (.tail (.tail (.tail (.head _ _)))))); (first | (focus (simp only [List.getElem?_toArray, List.getElem?_cons_zero, List.getElem?_cons_succ]; rfl)) | exact tab_get (by omega) | rfl); (first | exact one3 | exact one39); simp only [Act.put, List.setIfInBounds_toArray, List.set_cons_zero, List.set_cons_succ]) | ((with_reducible refine wpl ?_); apply st_cell (hM := hM); rfl; (first | exact want_none rfl | exact want_some rfl rfl rfl rfl); rfl; (first | (focus (go_simp; done)) | (focus (go_simp; rfl))); (first | exact .head _ _ | exact .tail (.head _ _) | exact .tail (.tail (.head _ _)) | exact .tail (.tail (.tail (.head _ _))) | exact .tail (.tail (.tail (.tail (.head _ _)))) | exact .tail (.tail (.tail (.tail (.tail (.head _ _)))))); (first | (focus (simp; done)) | (focus (rw [tab_size]; omega))); rfl; (first | exact one3 | exact one39); intro w1 hM1; clear hM; (try simp only [List.setIfInBounds_toArray, List.set_cons_zero, List.set_cons_succ] at hM1); (try rw [tab_setInt] at hM1);  have hM := hM1; clear hM1; simp only [Act.put, List.setIfInBounds_toArray, List.set_cons_zero, List.set_cons_succ]))
                            refine (free hM hcs6.ok (s6.m : Nat) rfl).mono ?_
                            rintro e w3 ⟨rfl, hM1⟩
                            clear hM
                            have hM := hM1.fewer (ms := (gm, .map es clk) :: B6.ms) (fun x hx => List.mem_cons_of_mem _ hx)
                            clear hM1
                            have hEl : Hid (E.length = cnt s6.H p.n) := hid_ (hCn.len hE.keys hcs6.H (fun id hp => Cs.lt hcs6 hp))
                            have hbal := hcs6.ok.bal
                            have hEn : E.length ≤ n0 := by have h1 := hEl.out; have h2 := hn.out; omega
                            have hsub : IntKind.i64.wrap ((n0 : Int) - (E.length : Int)) = (n0 : Int) - (E.length : Int) := IntWalk.i64_in _ (by omega)
                            have hneq : ((s6.m : Int) != (n0 : Int) - (E.length : Int)) = false := by
                              have h1 : (s6.m : Int) = (n0 : Int) - (E.length : Int) := by have h1 := hEl.out; have h2 := hn.out; omega
                              rw [h1]
                              simp
                            clear hbal
                            go_wp2_with (first | ((with_reducible refine wpl ?_); apply mp_len (hM := hM) (hE := hE) (ht := und48); rfl; (first | exact want_none rfl | exact want_some rfl rfl rfl rfl); rfl; simp only [Act.put, List.setIfInBounds_toArray, List.set_cons_zero, List.set_cons_succ]) | ((with_reducible refine wpl ?_); apply al_box (hM := hM); rfl; (first | exact want_none rfl | exact want_some rfl rfl rfl rfl); (first | (focus (go_simp; done)) | (focus (go_simp; rfl))); intro gb w1 hM1; clear hM; dsimp only [Value.cells] at hM1; have hM := hM1; clear hM1; simp only [Act.put, List.setIfInBounds_toArray, List.set_cons_zero, List.set_cons_succ]) | ((with_reducible refine wpl ?_); apply al_zero (hM := hM); rfl; (first | exact want_none rfl | exact want_some rfl rfl rfl rfl); (first | exact zero41 | exact zero45); intro gz w1 hM1; clear hM; dsimp only [Value.cells] at hM1; have hM := hM1; clear hM1; simp only [Act.put, List.setIfInBounds_toArray, List.set_cons_zero, List.set_cons_succ]) | ((with_reducible refine wpl ?_); apply ld_row (hM := hM); rfl; (first | exact want_none rfl | exact want_some rfl rfl rfl rfl); rfl; (first | exact .head _ _ | exact .tail (.head _ _) | exact .tail (.tail (.head _ _)) | exact .tail (.tail (.tail (.head _ _))) | exact .tail (.tail (.tail (.tail (.head _ _)))) | exact .tail (.tail (.tail (.tail (.tail (.head _ _)))))); (first | exact row41 | exact row45); simp only [Act.put, List.setIfInBounds_toArray, List.set_cons_zero, List.set_cons_succ]) | ((with_reducible refine wpl ?_); apply st_row (hM := hM); rfl; (first | exact want_none rfl | exact want_some rfl rfl rfl rfl); rfl; (first | (focus (go_simp; done)) | (focus (go_simp; rfl))); (first | exact .head _ _ | exact .tail (.head _ _) | exact .tail (.tail (.head _ _)) | exact .tail (.tail (.tail (.head _ _))) | exact .tail (.tail (.tail (.tail (.head _ _)))) | exact .tail (.tail (.tail (.tail (.tail (.head _ _)))))); rfl; rfl; (first | exact row41 | exact row45); intro w1 hM1; clear hM; (try simp only [List.setIfInBounds_toArray, List.set_cons_zero, List.set_cons_succ] at hM1); (try rw [tab_setInt] at hM1);  have hM := hM1; clear hM1; simp only [Act.put, List.setIfInBounds_toArray, List.set_cons_zero, List.set_cons_succ]) | ((with_reducible refine wpl ?_); apply ld_one (hM := hM); rfl; (first | exact want_none rfl | exact want_some rfl rfl rfl rfl); rfl; (first | exact .head _ _ | exact .tail (.head _ _) | exact .tail (.tail (.head _ _)) | exact .tail (.tail (.tail (.head _ _))) | exact .tail (.tail (.tail (.tail (.head _ _)))) | exact .tail (.tail (.tail (.tail (.tail (.head _ _)))))); (first | (focus (simp only [List.getElem?_toArray, List.getElem?_cons_zero, List.getElem?_cons_succ]; rfl)) | exact tab_get (by omega) | rfl); (first | exact one3 | exact one39); simp only [Act.put, List.setIfInBounds_toArray, List.set_cons_zero, List.set_cons_succ]) | ((with_reducible refine wpl ?_); apply st_cell (hM := hM); rfl; (first | exact want_none rfl | exact want_some rfl rfl rfl rfl); rfl; (first | (focus (go_simp; done)) | (focus (go_simp; rfl))); (first | exact .head _ _ | exact .tail (.head _ _) | exact .tail (.tail (.head _ _)) | exact .tail (.tail (.tail (.head _ _))) | exact .tail (.tail (.tail (.tail (.head _ _)))) | exact .tail (.tail (.tail (.tail (.tail (.head _ _)))))); (first | (focus (simp; done)) | (focus (rw [tab_size]; omega))); rfl; (first | exact one3 | exact one39); intro w1 hM1; clear hM; (try simp only [List.setIfInBounds_toArray, List.set_cons_zero, List.set_cons_succ] at hM1); (try rw [tab_setInt] at hM1);  have hM := hM1; clear hM1; simp only [Act.put, List.setIfInBounds_toArray, List.set_cons_zero, List.set_cons_succ]))
                            go_roundg (gk0 - 1)
                            case measure => omega
                            case rel => exact ⟨j + 1, s6, _, cs6, _, _, hid_ (by have := hq.out; omega), by go_num, rfl, hle6.trans (Le.park gm (.map es clk)), hcs6, hIs6.le (Le.park gm _), hjl6, hdl6, hTa6, hM⟩
                        · as_aux_lemma =>
                            go_wp2_with (first | ((with_reducible refine wpl ?_); apply mp_more (hM := hM) (hne := hne2) (hE := hE) (hS := hSn) (hall := hall); rfl; (first | exact want_none rfl | exact want_some rfl rfl rfl rfl); rfl; intro w1 en kx vx hen hSn2 hM1; clear hM; have hM := hM1; clear hM1; simp only [Act.put, List.setIfInBounds_toArray, List.set_cons_zero, List.set_cons_succ]) | ((with_reducible refine wpl ?_); apply mp_entry' (hM := hM) (hE := hE) (he := hen); rfl; (first | exact want_none rfl | exact want_some rfl rfl rfl rfl); rfl; simp only [Act.put, List.setIfInBounds_toArray, List.set_cons_zero, List.set_cons_succ]) | ((with_reducible refine wpl ?_); apply al_box (hM := hM); rfl; (first | exact want_none rfl | exact want_some rfl rfl rfl rfl); (first | (focus (go_simp; done)) | (focus (go_simp; rfl))); intro gb w1 hM1; clear hM; dsimp only [Value.cells] at hM1; have hM := hM1; clear hM1; simp only [Act.put, List.setIfInBounds_toArray, List.set_cons_zero, List.set_cons_succ]) | ((with_reducible refine wpl ?_); apply al_zero (hM := hM); rfl; (first | exact want_none rfl | exact want_some rfl rfl rfl rfl); (first | exact zero41 | exact zero45); intro gz w1 hM1; clear hM; dsimp only [Value.cells] at hM1; have hM := hM1; clear hM1; simp only [Act.put, List.setIfInBounds_toArray, List.set_cons_zero, List.set_cons_succ]) | ((with_reducible refine wpl ?_); apply ld_row (hM := hM); rfl; (first | exact want_none rfl | exact want_some rfl rfl rfl rfl); rfl; (first | exact .head _ _ | exact .tail (.head _ _) | exact .tail (.tail (.head _ _)) | exact .tail (.tail (.tail (.head _ _))) | exact .tail (.tail (.tail (.tail (.head _ _)))) | exact .tail (.tail (.tail (.tail (.tail (.head _ _)))))); (first | exact row41 | exact row45); simp only [Act.put, List.setIfInBounds_toArray, List.set_cons_zero, List.set_cons_succ]) | ((with_reducible refine wpl ?_); apply st_row (hM := hM); rfl; (first | exact want_none rfl | exact want_some rfl rfl rfl rfl); rfl; (first | (focus (go_simp; done)) | (focus (go_simp; rfl))); (first | exact .head _ _ | exact .tail (.head _ _) | exact .tail (.tail (.head _ _)) | exact .tail (.tail (.tail (.head _ _))) | exact .tail (.tail (.tail (.tail (.head _ _)))) | exact .tail (.tail (.tail (.tail (.tail (.head _ _)))))); rfl; rfl; (first | exact row41 | exact row45); intro w1 hM1; clear hM; (try simp only [List.setIfInBounds_toArray, List.set_cons_zero, List.set_cons_succ] at hM1); (try rw [tab_setInt] at hM1);  have hM := hM1; clear hM1; simp only [Act.put, List.setIfInBounds_toArray, List.set_cons_zero, List.set_cons_succ]) | ((with_reducible refine wpl ?_); apply ld_one (hM := hM); rfl; (first | exact want_none rfl | exact want_some rfl rfl rfl rfl); rfl; (first | exact .head _ _ | exact .tail (.head _ _) | exact .tail (.tail (.head _ _)) | exact .tail (.tail (.tail (.head _ _))) | exact .tail (.tail (.tail (.tail (.head _ _)))) | exact .tail (.tail (.tail (.tail (.tail (.head _ _)))))); (first | (focus (simp only [List.getElem?_toArray, List.getElem?_cons_zero, List.getElem?_cons_succ]; rfl)) | exact tab_get (by omega) | rfl); (first | exact one3 | exact one39); simp only [Act.put, List.setIfInBounds_toArray, List.set_cons_zero, List.set_cons_succ]) | ((with_reducible refine wpl ?_); apply st_cell (hM := hM); rfl; (first | exact want_none rfl | exact want_some rfl rfl rfl rfl); rfl; (first | (focus (go_simp; done)) | (focus (go_simp; rfl))); (first | exact .head _ _ | exact .tail (.head _ _) | exact .tail (.tail (.head _ _)) | exact .tail (.tail (.tail (.head _ _))) | exact .tail (.tail (.tail (.tail (.head _ _)))) | exact .tail (.tail (.tail (.tail (.tail (.head _ _)))))); (first | (focus (simp; done)) | (focus (rw [tab_size]; omega))); rfl; (first | exact one3 | exact one39); intro w1 hM1; clear hM; (try simp only [List.setIfInBounds_toArray, List.set_cons_zero, List.set_cons_succ] at hM1); (try rw [tab_setInt] at hM1);  have hM := hM1; clear hM1; simp only [Act.put, List.setIfInBounds_toArray, List.set_cons_zero, List.set_cons_succ]))
                            obtain ⟨id, hkv, hidp⟩ := hCn.ent _ hen.out.2.2.2.2
                            simp only [Prod.mk.injEq] at hkv
                            obtain ⟨rfl, rfl⟩ := hkv
                            have hidn : id < p.n := Cs.lt hcs6 hidp
                            refine (holds hM hcs6.ok id hidn (tot cs6 id : Nat) (hcs6.H id)).mono ?_
                            rintro e w6 ⟨rfl, hM1⟩
                            clear hM
                            have hM := hM1
                            clear hM1
                            go_wp2_with (first | ((with_reducible refine wpl ?_); apply al_box (hM := hM); rfl; (first | exact want_none rfl | exact want_some rfl rfl rfl rfl); (first | (focus (go_simp; done)) | (focus (go_simp; rfl))); intro gb w1 hM1; clear hM; dsimp only [Value.cells] at hM1; have hM := hM1; clear hM1; simp only [Act.put, List.setIfInBounds_toArray, List.set_cons_zero, List.set_cons_succ]) | ((with_reducible refine wpl ?_); apply al_zero (hM := hM); rfl; (first | exact want_none rfl | exact want_some rfl rfl rfl rfl); (first | exact zero41 | exact zero45); intro gz w1 hM1; clear hM; dsimp only [Value.cells] at hM1; have hM := hM1; clear hM1; simp only [Act.put, List.setIfInBounds_toArray, List.set_cons_zero, List.set_cons_succ]) | ((with_reducible refine wpl ?_); apply ld_row (hM := hM); rfl; (first | exact want_none rfl | exact want_some rfl rfl rfl rfl); rfl; (first | exact .head _ _ | exact .tail (.head _ _) | exact .tail (.tail (.head _ _)) | exact .tail (.tail (.tail (.head _ _))) | exact .tail (.tail (.tail (.tail (.head _ _)))) | exact .tail (.tail (.tail (.tail (.tail (.head _ _)))))); (first | exact row41 | exact row45); simp only [Act.put, List.setIfInBounds_toArray, List.set_cons_zero, List.set_cons_succ]) | ((with_reducible refine wpl ?_); apply st_row (hM := hM); rfl; (first | exact want_none rfl | exact want_some rfl rfl rfl rfl); rfl; (first | (focus (go_simp; done)) | (focus (go_simp; rfl))); (first | exact .head _ _ | exact .tail (.head _ _) | exact .tail (.tail (.head _ _)) | exact .tail (.tail (.tail (.head _ _))) | exact .tail (.tail (.tail (.tail (.head _ _)))) | exact .tail (.tail (.tail (.tail (.tail (.head _ _)))))); rfl; rfl; (first | exact row41 | exact row45); intro w1 hM1; clear hM; (try simp only [List.setIfInBounds_toArray, List.set_cons_zero, List.set_cons_succ] at hM1); (try rw [tab_setInt] at hM1);  have hM := hM1; clear hM1; simp only [Act.put, List.setIfInBounds_toArray, List.set_cons_zero, List.set_cons_succ]) | ((with_reducible refine wpl ?_); apply ld_one (hM := hM); rfl; (first | exact want_none rfl | exact want_some rfl rfl rfl rfl); rfl; (first | exact .head _ _ | exact .tail (.head _ _) | exact .tail (.tail (.head _ _)) | exact .tail (.tail (.tail (.head _ _))) | exact .tail (.tail (.tail (.tail (.head _ _)))) | exact .tail (.tail (.tail (.tail (.tail (.head _ _)))))); (first | (focus (simp only [List.getElem?_toArray, List.getElem?_cons_zero, List.getElem?_cons_succ]; rfl)) | exact tab_get (by omega) | rfl); (first | exact one3 | exact one39); simp only [Act.put, List.setIfInBounds_toArray, List.set_cons_zero, List.set_cons_succ]) | ((with_reducible refine wpl ?_); apply st_cell (hM := hM); rfl; (first | exact want_none rfl | exact want_some rfl rfl rfl rfl); rfl; (first | (focus (go_simp; done)) | (focus (go_simp; rfl))); (first | exact .head _ _ | exact .tail (.head _ _) | exact .tail (.tail (.head _ _)) | exact .tail (.tail (.tail (.head _ _))) | exact .tail (.tail (.tail (.tail (.head _ _)))) | exact .tail (.tail (.tail (.tail (.tail (.head _ _)))))); (first | (focus (simp; done)) | (focus (rw [tab_size]; omega))); rfl; (first | exact one3 | exact one39); intro w1 hM1; clear hM; (try simp only [List.setIfInBounds_toArray, List.set_cons_zero, List.set_cons_succ] at hM1); (try rw [tab_setInt] at hM1);  have hM := hM1; clear hM1; simp only [Act.put, List.setIfInBounds_toArray, List.set_cons_zero, List.set_cons_succ]))
                            have hle2 := hSn2.le
                            have hel2 := hE.len
                            rw [List.length_append, List.length_singleton] at hle2
                            have hq' := hqV.out
                            have hkk : 1 ≤ gk := by omega
                            go_roundg (gk - 1)
                            case measure => omega
                            case rel => exact ⟨V ++ [en], seen.push en.born, hid_ (by rw [List.length_append, List.length_singleton]; omega), hSn2, hM⟩
    · obtain rfl : j = ops.length := by have := hq.out; omega
      go_wp2_with (first | ((with_reducible refine wpl ?_); apply al_box (hM := hM); rfl; (first | exact want_none rfl | exact want_some rfl rfl rfl rfl); (first | (focus (go_simp; done)) | (focus (go_simp; rfl))); intro gb w1 hM1; clear hM; dsimp only [Value.cells] at hM1; have hM := hM1; clear hM1; simp only [Act.put, List.setIfInBounds_toArray, List.set_cons_zero, List.set_cons_succ]) | ((with_reducible refine wpl ?_); apply al_zero (hM := hM); rfl; (first | exact want_none rfl | exact want_some rfl rfl rfl rfl); (first | exact zero41 | exact zero45); intro gz w1 hM1; clear hM; dsimp only [Value.cells] at hM1; have hM := hM1; clear hM1; simp only [Act.put, List.setIfInBounds_toArray, List.set_cons_zero, List.set_cons_succ]) | ((with_reducible refine wpl ?_); apply ld_row (hM := hM); rfl; (first | exact want_none rfl | exact want_some rfl rfl rfl rfl); rfl; (first | exact .head _ _ | exact .tail (.head _ _) | exact .tail (.tail (.head _ _)) | exact .tail (.tail (.tail (.head _ _))) | exact .tail (.tail (.tail (.tail (.head _ _)))) | exact .tail (.tail (.tail (.tail (.tail (.head _ _)))))); (first | exact row41 | exact row45); simp only [Act.put, List.setIfInBounds_toArray, List.set_cons_zero, List.set_cons_succ]) | ((with_reducible refine wpl ?_); apply st_row (hM := hM); rfl; (first | exact want_none rfl | exact want_some rfl rfl rfl rfl); rfl; (first | (focus (go_simp; done)) | (focus (go_simp; rfl))); (first | exact .head _ _ | exact .tail (.head _ _) | exact .tail (.tail (.head _ _)) | exact .tail (.tail (.tail (.head _ _))) | exact .tail (.tail (.tail (.tail (.head _ _)))) | exact .tail (.tail (.tail (.tail (.tail (.head _ _)))))); rfl; rfl; (first | exact row41 | exact row45); intro w1 hM1; clear hM; (try simp only [List.setIfInBounds_toArray, List.set_cons_zero, List.set_cons_succ] at hM1); (try rw [tab_setInt] at hM1);  have hM := hM1; clear hM1; simp only [Act.put, List.setIfInBounds_toArray, List.set_cons_zero, List.set_cons_succ]) | ((with_reducible refine wpl ?_); apply ld_one (hM := hM); rfl; (first | exact want_none rfl | exact want_some rfl rfl rfl rfl); rfl; (first | exact .head _ _ | exact .tail (.head _ _) | exact .tail (.tail (.head _ _)) | exact .tail (.tail (.tail (.head _ _))) | exact .tail (.tail (.tail (.tail (.head _ _)))) | exact .tail (.tail (.tail (.tail (.tail (.head _ _)))))); (first | (focus (simp only [List.getElem?_toArray, List.getElem?_cons_zero, List.getElem?_cons_succ]; rfl)) | exact tab_get (by omega) | rfl); (first | exact one3 | exact one39); simp only [Act.put, List.setIfInBounds_toArray, List.set_cons_zero, List.set_cons_succ]) | ((with_reducible refine wpl ?_); apply st_cell (hM := hM); rfl; (first | exact want_none rfl | exact want_some rfl rfl rfl rfl); rfl; (first | (focus (go_simp; done)) | (focus (go_simp; rfl))); (first | exact .head _ _ | exact .tail (.head _ _) | exact .tail (.tail (.head _ _)) | exact .tail (.tail (.tail (.head _ _))) | exact .tail (.tail (.tail (.tail (.head _ _)))) | exact .tail (.tail (.tail (.tail (.tail (.head _ _)))))); (first | (focus (simp; done)) | (focus (rw [tab_size]; omega))); rfl; (first | exact one3 | exact one39); intro w1 hM1; clear hM; (try simp only [List.setIfInBounds_toArray, List.set_cons_zero, List.set_cons_succ] at hM1); (try rw [tab_setInt] at hM1);  have hM := hM1; clear hM1; simp only [Act.put, List.setIfInBounds_toArray, List.set_cons_zero, List.set_cons_succ]))
      go_ret
      exact ⟨rfl, (hle.mem hM).below⟩
set_option maxRecDepth 100000 in
set_option maxHeartbeats 4000000 in
theorem whole_a (w : World) (n0 : Int) (b : Option Addr) (n c : Nat) (h : n0 < 0) : Calls Try.prog 4 #[.int .i64 n0, .slice b n c] w fun e w' => e = .returned (.bool true) ∧ Below w.heap.size w w' := by
  have hM := Mem.start w
  go_enter Try.func4, Try.ntmps4
  go_wp2_with (first
    | ((with_reducible refine wpl ?_); apply al_box (hM := hM); rfl; (first | exact want_none rfl | exact want_some rfl rfl rfl rfl); (first | (focus (go_simp; done)) | (focus (go_simp; rfl))); intro gb w1 hM1; clear hM; dsimp only [Value.cells] at hM1; have hM := hM1; clear hM1; simp only [Act.put, List.setIfInBounds_toArray, List.set_cons_zero, List.set_cons_succ])
    | ((with_reducible refine wpl ?_); apply al_zero (hM := hM); rfl; (first | exact want_none rfl | exact want_some rfl rfl rfl rfl); (first | exact zero41 | exact zero45); intro gz w1 hM1; clear hM; dsimp only [Value.cells] at hM1; have hM := hM1; clear hM1; simp only [Act.put, List.setIfInBounds_toArray, List.set_cons_zero, List.set_cons_succ])
    | ((with_reducible refine wpl ?_); apply ld_row (hM := hM); rfl; (first | exact want_none rfl | exact want_some rfl rfl rfl rfl); rfl; (first | exact .head _ _ | exact .tail (.head _ _) | exact .tail (.tail (.head _ _)) | exact .tail (.tail (.tail (.head _ _))) | exact .tail (.tail (.tail (.tail (.head _ _)))) | exact .tail (.tail (.tail (.tail (.tail (.head _ _)))))); (first | exact row41 | exact row45); simp only [Act.put, List.setIfInBounds_toArray, List.set_cons_zero, List.set_cons_succ])
    | ((with_reducible refine wpl ?_); apply st_row (hM := hM); rfl; (first | exact want_none rfl | exact want_some rfl rfl rfl rfl); rfl; (first | (focus (go_simp; done)) | (focus (go_simp; rfl))); (first | exact .head _ _ | exact .tail (.head _ _) | exact .tail (.tail (.head _ _)) | exact .tail (.tail (.tail (.head _ _))) | exact .tail (.tail (.tail (.tail (.head _ _)))) | exact .tail (.tail (.tail (.tail (.tail (.head _ _)))))); rfl; rfl; (first | exact row41 | exact row45); intro w1 hM1; clear hM; (try simp only [List.setIfInBounds_toArray, List.set_cons_zero, List.set_cons_succ] at hM1); (try rw [tab_setInt] at hM1);  have hM := hM1; clear hM1; simp only [Act.put, List.setIfInBounds_toArray, List.set_cons_zero, List.set_cons_succ])
    | ((with_reducible refine wpl ?_); apply ld_one (hM := hM); rfl; (first | exact want_none rfl | exact want_some rfl rfl rfl rfl); rfl; (first | exact .head _ _ | exact .tail (.head _ _) | exact .tail (.tail (.head _ _)) | exact .tail (.tail (.tail (.head _ _))) | exact .tail (.tail (.tail (.tail (.head _ _)))) | exact .tail (.tail (.tail (.tail (.tail (.head _ _)))))); (first | (focus (simp only [List.getElem?_toArray, List.getElem?_cons_zero, List.getElem?_cons_succ]; rfl)) | exact tab_get (by omega) | rfl); (first | exact one3 | exact one39); simp only [Act.put, List.setIfInBounds_toArray, List.set_cons_zero, List.set_cons_succ])
    | ((with_reducible refine wpl ?_); apply st_cell (hM := hM); rfl; (first | exact want_none rfl | exact want_some rfl rfl rfl rfl); rfl; (first | (focus (go_simp; done)) | (focus (go_simp; rfl))); (first | exact .head _ _ | exact .tail (.head _ _) | exact .tail (.tail (.head _ _)) | exact .tail (.tail (.tail (.head _ _))) | exact .tail (.tail (.tail (.tail (.head _ _)))) | exact .tail (.tail (.tail (.tail (.tail (.head _ _)))))); (first | (focus (simp; done)) | (focus (rw [tab_size]; omega))); rfl; (first | exact one3 | exact one39); intro w1 hM1; clear hM; (try simp only [List.setIfInBounds_toArray, List.set_cons_zero, List.set_cons_succ] at hM1); (try rw [tab_setInt] at hM1);  have hM := hM1; clear hM1; simp only [Act.put, List.setIfInBounds_toArray, List.set_cons_zero, List.set_cons_succ]))
  refine (new hM 2 (by omega) rfl).mono ?_
  rintro e w3 ⟨p0, s0, rfl, hn00, ok0, hm00, hH00, hM1⟩
  clear hM
  have hM := hM1
  clear hM1
  have hc00 := (Cs.start ok0 hH00).begin_
  replace hm00 := hid_ hm00
  replace hn00 := hid_ hn00
  clear hH00
  go_wp2_with (first
    | ((with_reducible refine wpl ?_); apply al_one (hM := hM) (ht := sl22); rfl; (first | exact want_none rfl | exact want_some rfl rfl rfl rfl); (first | (focus (go_simp; done)) | (focus (go_simp; rfl))); rfl; intro gb w1 hM1; clear hM; have hM := hM1; clear hM1; simp only [Act.put, List.setIfInBounds_toArray, List.set_cons_zero, List.set_cons_succ])
    | ((with_reducible refine wpl ?_); apply cv_same (hM := hM); rfl; (first | exact want_none rfl | exact want_some rfl rfl rfl rfl); exact und22; exact und5; rfl; (first | exact .head _ _ | exact .tail (.head _ _) | exact .tail (.tail (.head _ _)) | exact .tail (.tail (.tail (.head _ _))) | exact .tail (.tail (.tail (.tail (.head _ _)))) | exact .tail (.tail (.tail (.tail (.tail (.head _ _)))))); intro w1 hM1; clear hM; have hM := hM1; clear hM1; simp only [Act.put, List.setIfInBounds_toArray, List.set_cons_zero, List.set_cons_succ])
    | ((with_reducible refine wpl ?_); apply al_box (hM := hM); rfl; (first | exact want_none rfl | exact want_some rfl rfl rfl rfl); (first | (focus (go_simp; done)) | (focus (go_simp; rfl))); intro gb w1 hM1; clear hM; dsimp only [Value.cells] at hM1; have hM := hM1; clear hM1; simp only [Act.put, List.setIfInBounds_toArray, List.set_cons_zero, List.set_cons_succ])
    | ((with_reducible refine wpl ?_); apply al_zero (hM := hM); rfl; (first | exact want_none rfl | exact want_some rfl rfl rfl rfl); (first | exact zero41 | exact zero45); intro gz w1 hM1; clear hM; dsimp only [Value.cells] at hM1; have hM := hM1; clear hM1; simp only [Act.put, List.setIfInBounds_toArray, List.set_cons_zero, List.set_cons_succ])
    | ((with_reducible refine wpl ?_); apply ld_row (hM := hM); rfl; (first | exact want_none rfl | exact want_some rfl rfl rfl rfl); rfl; (first | exact .head _ _ | exact .tail (.head _ _) | exact .tail (.tail (.head _ _)) | exact .tail (.tail (.tail (.head _ _))) | exact .tail (.tail (.tail (.tail (.head _ _)))) | exact .tail (.tail (.tail (.tail (.tail (.head _ _)))))); (first | exact row41 | exact row45); simp only [Act.put, List.setIfInBounds_toArray, List.set_cons_zero, List.set_cons_succ])
    | ((with_reducible refine wpl ?_); apply st_row (hM := hM); rfl; (first | exact want_none rfl | exact want_some rfl rfl rfl rfl); rfl; (first | (focus (go_simp; done)) | (focus (go_simp; rfl))); (first | exact .head _ _ | exact .tail (.head _ _) | exact .tail (.tail (.head _ _)) | exact .tail (.tail (.tail (.head _ _))) | exact .tail (.tail (.tail (.tail (.head _ _)))) | exact .tail (.tail (.tail (.tail (.tail (.head _ _)))))); rfl; rfl; (first | exact row41 | exact row45); intro w1 hM1; clear hM; (try simp only [List.setIfInBounds_toArray, List.set_cons_zero, List.set_cons_succ] at hM1); (try rw [tab_setInt] at hM1);  have hM := hM1; clear hM1; simp only [Act.put, List.setIfInBounds_toArray, List.set_cons_zero, List.set_cons_succ])
    | ((with_reducible refine wpl ?_); apply ld_one (hM := hM); rfl; (first | exact want_none rfl | exact want_some rfl rfl rfl rfl); rfl; (first | exact .head _ _ | exact .tail (.head _ _) | exact .tail (.tail (.head _ _)) | exact .tail (.tail (.tail (.head _ _))) | exact .tail (.tail (.tail (.tail (.head _ _)))) | exact .tail (.tail (.tail (.tail (.tail (.head _ _)))))); (first | (focus (simp only [List.getElem?_toArray, List.getElem?_cons_zero, List.getElem?_cons_succ]; rfl)) | exact tab_get (by omega) | rfl); (first | exact one3 | exact one39); simp only [Act.put, List.setIfInBounds_toArray, List.set_cons_zero, List.set_cons_succ])
    | ((with_reducible refine wpl ?_); apply st_cell (hM := hM); rfl; (first | exact want_none rfl | exact want_some rfl rfl rfl rfl); rfl; (first | (focus (go_simp; done)) | (focus (go_simp; rfl))); (first | exact .head _ _ | exact .tail (.head _ _) | exact .tail (.tail (.head _ _)) | exact .tail (.tail (.tail (.head _ _))) | exact .tail (.tail (.tail (.tail (.head _ _)))) | exact .tail (.tail (.tail (.tail (.tail (.head _ _)))))); (first | (focus (simp; done)) | (focus (rw [tab_size]; omega))); rfl; (first | exact one3 | exact one39); intro w1 hM1; clear hM; (try simp only [List.setIfInBounds_toArray, List.set_cons_zero, List.set_cons_succ] at hM1); (try rw [tab_setInt] at hM1);  have hM := hM1; clear hM1; simp only [Act.put, List.setIfInBounds_toArray, List.set_cons_zero, List.set_cons_succ]))
  obtain ⟨B_hb1, hL_hb1, hM1, hb1⟩ := parkedB hM [120] rfl (Nat.le_refl _) (fun j hj => by match j, hj with | 0, _ => rfl)
  clear hM
  have hM := hM1
  clear hM1
  refine (cappend (c := none_) (b' := [120]) (v' := 1) hM hc00 ((In.nil _).cons (IdsAt.nil _)) hb1 (by decide) (by rw [hm00.out]; simp [more, mo, nd, none_]) rfl rfl rfl).mono ?_
  rintro e w3 ⟨s1, a1, m1, k1, L1, B1, rfl, hl1, hM1, hc1, hI1, hf1, ho1⟩
  clear hM
  have hM := hM1
  clear hM1
  clear hf1 ho1
  have hlen1 : L1.length = 1 := by have := hc1.len _ (List.mem_cons_self ..); simpa [nd] using this
  obtain ⟨i1, rfl⟩ : ∃ i, L1 = [i] := List.length_eq_one_iff.1 hlen1
  clear hlen1
  have hi1 : i1 < p0.n := hc1.mem _ (List.mem_cons_self ..) i1 (List.mem_singleton.2 rfl)
  have hH1 : Hid (s1.H i1 = 1) := hid_ (by rw [hc1.H]; simp [tot])
  have hI1' : IdsAt B1 (.slice a1 m1 k1) [i1] := hI1 _ (List.mem_cons_self ..)
  obtain ⟨ax, kx, hxx⟩ := (hI1' _ _ _ hM).len
  simp only [Value.slice.injEq, List.length_singleton] at hxx
  obtain ⟨rfl, rfl, rfl⟩ := hxx
  obtain ⟨a0, rfl, hcell1⟩ := Ints.cell (show Ints _ (.slice a1 [i1].length _) [i1] from hI1' _ _ _ hM) (i := 0) (by simp)
  clear hcell1
  have d0 : decide (n0 < 0) = true := decide_eq_true (by omega)
  go_wp2_with (first
    | ((with_reducible refine wpl ?_); apply ld_ids (hM := hM) (hI := hI1') (i := 0); rfl; (first | exact want_none rfl | exact want_some rfl rfl rfl rfl); (first | rfl | (focus (go_simp; done))); rfl; exact one3; simp only [Act.put, List.setIfInBounds_toArray, List.set_cons_zero, List.set_cons_succ])
    | ((with_reducible refine wpl ?_); apply al_box (hM := hM); rfl; (first | exact want_none rfl | exact want_some rfl rfl rfl rfl); (first | (focus (go_simp; done)) | (focus (go_simp; rfl))); intro gb w1 hM1; clear hM; dsimp only [Value.cells] at hM1; have hM := hM1; clear hM1; simp only [Act.put, List.setIfInBounds_toArray, List.set_cons_zero, List.set_cons_succ])
    | ((with_reducible refine wpl ?_); apply al_zero (hM := hM); rfl; (first | exact want_none rfl | exact want_some rfl rfl rfl rfl); (first | exact zero41 | exact zero45); intro gz w1 hM1; clear hM; dsimp only [Value.cells] at hM1; have hM := hM1; clear hM1; simp only [Act.put, List.setIfInBounds_toArray, List.set_cons_zero, List.set_cons_succ])
    | ((with_reducible refine wpl ?_); apply ld_row (hM := hM); rfl; (first | exact want_none rfl | exact want_some rfl rfl rfl rfl); rfl; (first | exact .head _ _ | exact .tail (.head _ _) | exact .tail (.tail (.head _ _)) | exact .tail (.tail (.tail (.head _ _))) | exact .tail (.tail (.tail (.tail (.head _ _)))) | exact .tail (.tail (.tail (.tail (.tail (.head _ _)))))); (first | exact row41 | exact row45); simp only [Act.put, List.setIfInBounds_toArray, List.set_cons_zero, List.set_cons_succ])
    | ((with_reducible refine wpl ?_); apply st_row (hM := hM); rfl; (first | exact want_none rfl | exact want_some rfl rfl rfl rfl); rfl; (first | (focus (go_simp; done)) | (focus (go_simp; rfl))); (first | exact .head _ _ | exact .tail (.head _ _) | exact .tail (.tail (.head _ _)) | exact .tail (.tail (.tail (.head _ _))) | exact .tail (.tail (.tail (.tail (.head _ _)))) | exact .tail (.tail (.tail (.tail (.tail (.head _ _)))))); rfl; rfl; (first | exact row41 | exact row45); intro w1 hM1; clear hM; (try simp only [List.setIfInBounds_toArray, List.set_cons_zero, List.set_cons_succ] at hM1); (try rw [tab_setInt] at hM1);  have hM := hM1; clear hM1; simp only [Act.put, List.setIfInBounds_toArray, List.set_cons_zero, List.set_cons_succ])
    | ((with_reducible refine wpl ?_); apply ld_one (hM := hM); rfl; (first | exact want_none rfl | exact want_some rfl rfl rfl rfl); rfl; (first | exact .head _ _ | exact .tail (.head _ _) | exact .tail (.tail (.head _ _)) | exact .tail (.tail (.tail (.head _ _))) | exact .tail (.tail (.tail (.tail (.head _ _)))) | exact .tail (.tail (.tail (.tail (.tail (.head _ _)))))); (first | (focus (simp only [List.getElem?_toArray, List.getElem?_cons_zero, List.getElem?_cons_succ]; rfl)) | exact tab_get (by omega) | rfl); (first | exact one3 | exact one39); simp only [Act.put, List.setIfInBounds_toArray, List.set_cons_zero, List.set_cons_succ])
    | ((with_reducible refine wpl ?_); apply st_cell (hM := hM); rfl; (first | exact want_none rfl | exact want_some rfl rfl rfl rfl); rfl; (first | (focus (go_simp; done)) | (focus (go_simp; rfl))); (first | exact .head _ _ | exact .tail (.head _ _) | exact .tail (.tail (.head _ _)) | exact .tail (.tail (.tail (.head _ _))) | exact .tail (.tail (.tail (.tail (.head _ _)))) | exact .tail (.tail (.tail (.tail (.tail (.head _ _)))))); (first | (focus (simp; done)) | (focus (rw [tab_size]; omega))); rfl; (first | exact one3 | exact one39); intro w1 hM1; clear hM; (try simp only [List.setIfInBounds_toArray, List.set_cons_zero, List.set_cons_succ] at hM1); (try rw [tab_setInt] at hM1);  have hM := hM1; clear hM1; simp only [Act.put, List.setIfInBounds_toArray, List.set_cons_zero, List.set_cons_succ]))
  refine (holds hM hc1.ok i1 hi1 1 hH1.out).mono ?_
  rintro e w3 ⟨rfl, hM1⟩
  clear hM
  have hM := hM1
  clear hM1
  go_wp2_with (first
    | ((with_reducible refine wpl ?_); apply al_box (hM := hM); rfl; (first | exact want_none rfl | exact want_some rfl rfl rfl rfl); (first | (focus (go_simp; done)) | (focus (go_simp; rfl))); intro gb w1 hM1; clear hM; dsimp only [Value.cells] at hM1; have hM := hM1; clear hM1; simp only [Act.put, List.setIfInBounds_toArray, List.set_cons_zero, List.set_cons_succ])
    | ((with_reducible refine wpl ?_); apply al_zero (hM := hM); rfl; (first | exact want_none rfl | exact want_some rfl rfl rfl rfl); (first | exact zero41 | exact zero45); intro gz w1 hM1; clear hM; dsimp only [Value.cells] at hM1; have hM := hM1; clear hM1; simp only [Act.put, List.setIfInBounds_toArray, List.set_cons_zero, List.set_cons_succ])
    | ((with_reducible refine wpl ?_); apply ld_row (hM := hM); rfl; (first | exact want_none rfl | exact want_some rfl rfl rfl rfl); rfl; (first | exact .head _ _ | exact .tail (.head _ _) | exact .tail (.tail (.head _ _)) | exact .tail (.tail (.tail (.head _ _))) | exact .tail (.tail (.tail (.tail (.head _ _)))) | exact .tail (.tail (.tail (.tail (.tail (.head _ _)))))); (first | exact row41 | exact row45); simp only [Act.put, List.setIfInBounds_toArray, List.set_cons_zero, List.set_cons_succ])
    | ((with_reducible refine wpl ?_); apply st_row (hM := hM); rfl; (first | exact want_none rfl | exact want_some rfl rfl rfl rfl); rfl; (first | (focus (go_simp; done)) | (focus (go_simp; rfl))); (first | exact .head _ _ | exact .tail (.head _ _) | exact .tail (.tail (.head _ _)) | exact .tail (.tail (.tail (.head _ _))) | exact .tail (.tail (.tail (.tail (.head _ _)))) | exact .tail (.tail (.tail (.tail (.tail (.head _ _)))))); rfl; rfl; (first | exact row41 | exact row45); intro w1 hM1; clear hM; (try simp only [List.setIfInBounds_toArray, List.set_cons_zero, List.set_cons_succ] at hM1); (try rw [tab_setInt] at hM1);  have hM := hM1; clear hM1; simp only [Act.put, List.setIfInBounds_toArray, List.set_cons_zero, List.set_cons_succ])
    | ((with_reducible refine wpl ?_); apply ld_one (hM := hM); rfl; (first | exact want_none rfl | exact want_some rfl rfl rfl rfl); rfl; (first | exact .head _ _ | exact .tail (.head _ _) | exact .tail (.tail (.head _ _)) | exact .tail (.tail (.tail (.head _ _))) | exact .tail (.tail (.tail (.tail (.head _ _)))) | exact .tail (.tail (.tail (.tail (.tail (.head _ _)))))); (first | (focus (simp only [List.getElem?_toArray, List.getElem?_cons_zero, List.getElem?_cons_succ]; rfl)) | exact tab_get (by omega) | rfl); (first | exact one3 | exact one39); simp only [Act.put, List.setIfInBounds_toArray, List.set_cons_zero, List.set_cons_succ])
    | ((with_reducible refine wpl ?_); apply st_cell (hM := hM); rfl; (first | exact want_none rfl | exact want_some rfl rfl rfl rfl); rfl; (first | (focus (go_simp; done)) | (focus (go_simp; rfl))); (first | exact .head _ _ | exact .tail (.head _ _) | exact .tail (.tail (.head _ _)) | exact .tail (.tail (.tail (.head _ _))) | exact .tail (.tail (.tail (.tail (.head _ _)))) | exact .tail (.tail (.tail (.tail (.tail (.head _ _)))))); (first | (focus (simp; done)) | (focus (rw [tab_size]; omega))); rfl; (first | exact one3 | exact one39); intro w1 hM1; clear hM; (try simp only [List.setIfInBounds_toArray, List.set_cons_zero, List.set_cons_succ] at hM1); (try rw [tab_setInt] at hM1);  have hM := hM1; clear hM1; simp only [Act.put, List.setIfInBounds_toArray, List.set_cons_zero, List.set_cons_succ]))
  have hl0 := hL_hb1.trans hl1
  go_ret
  exact ⟨rfl, (hl0.mem hM).below⟩

set_option maxRecDepth 100000 in
set_option maxHeartbeats 4000000 in
theorem whole_b (w : World) (n0 : Int) (b : Option Addr) (n c : Nat) (h : 0 ≤ n0) (h2 : 100 < n0) : Calls Try.prog 4 #[.int .i64 n0, .slice b n c] w fun e w' => e = .returned (.bool true) ∧ Below w.heap.size w w' := by
  have hM := Mem.start w
  go_enter Try.func4, Try.ntmps4
  go_wp2_with (first
    | ((with_reducible refine wpl ?_); apply al_box (hM := hM); rfl; (first | exact want_none rfl | exact want_some rfl rfl rfl rfl); (first | (focus (go_simp; done)) | (focus (go_simp; rfl))); intro gb w1 hM1; clear hM; dsimp only [Value.cells] at hM1; have hM := hM1; clear hM1; simp only [Act.put, List.setIfInBounds_toArray, List.set_cons_zero, List.set_cons_succ])
    | ((with_reducible refine wpl ?_); apply al_zero (hM := hM); rfl; (first | exact want_none rfl | exact want_some rfl rfl rfl rfl); (first | exact zero41 | exact zero45); intro gz w1 hM1; clear hM; dsimp only [Value.cells] at hM1; have hM := hM1; clear hM1; simp only [Act.put, List.setIfInBounds_toArray, List.set_cons_zero, List.set_cons_succ])
    | ((with_reducible refine wpl ?_); apply ld_row (hM := hM); rfl; (first | exact want_none rfl | exact want_some rfl rfl rfl rfl); rfl; (first | exact .head _ _ | exact .tail (.head _ _) | exact .tail (.tail (.head _ _)) | exact .tail (.tail (.tail (.head _ _))) | exact .tail (.tail (.tail (.tail (.head _ _)))) | exact .tail (.tail (.tail (.tail (.tail (.head _ _)))))); (first | exact row41 | exact row45); simp only [Act.put, List.setIfInBounds_toArray, List.set_cons_zero, List.set_cons_succ])
    | ((with_reducible refine wpl ?_); apply st_row (hM := hM); rfl; (first | exact want_none rfl | exact want_some rfl rfl rfl rfl); rfl; (first | (focus (go_simp; done)) | (focus (go_simp; rfl))); (first | exact .head _ _ | exact .tail (.head _ _) | exact .tail (.tail (.head _ _)) | exact .tail (.tail (.tail (.head _ _))) | exact .tail (.tail (.tail (.tail (.head _ _)))) | exact .tail (.tail (.tail (.tail (.tail (.head _ _)))))); rfl; rfl; (first | exact row41 | exact row45); intro w1 hM1; clear hM; (try simp only [List.setIfInBounds_toArray, List.set_cons_zero, List.set_cons_succ] at hM1); (try rw [tab_setInt] at hM1);  have hM := hM1; clear hM1; simp only [Act.put, List.setIfInBounds_toArray, List.set_cons_zero, List.set_cons_succ])
    | ((with_reducible refine wpl ?_); apply ld_one (hM := hM); rfl; (first | exact want_none rfl | exact want_some rfl rfl rfl rfl); rfl; (first | exact .head _ _ | exact .tail (.head _ _) | exact .tail (.tail (.head _ _)) | exact .tail (.tail (.tail (.head _ _))) | exact .tail (.tail (.tail (.tail (.head _ _)))) | exact .tail (.tail (.tail (.tail (.tail (.head _ _)))))); (first | (focus (simp only [List.getElem?_toArray, List.getElem?_cons_zero, List.getElem?_cons_succ]; rfl)) | exact tab_get (by omega) | rfl); (first | exact one3 | exact one39); simp only [Act.put, List.setIfInBounds_toArray, List.set_cons_zero, List.set_cons_succ])
    | ((with_reducible refine wpl ?_); apply st_cell (hM := hM); rfl; (first | exact want_none rfl | exact want_some rfl rfl rfl rfl); rfl; (first | (focus (go_simp; done)) | (focus (go_simp; rfl))); (first | exact .head _ _ | exact .tail (.head _ _) | exact .tail (.tail (.head _ _)) | exact .tail (.tail (.tail (.head _ _))) | exact .tail (.tail (.tail (.tail (.head _ _)))) | exact .tail (.tail (.tail (.tail (.tail (.head _ _)))))); (first | (focus (simp; done)) | (focus (rw [tab_size]; omega))); rfl; (first | exact one3 | exact one39); intro w1 hM1; clear hM; (try simp only [List.setIfInBounds_toArray, List.set_cons_zero, List.set_cons_succ] at hM1); (try rw [tab_setInt] at hM1);  have hM := hM1; clear hM1; simp only [Act.put, List.setIfInBounds_toArray, List.set_cons_zero, List.set_cons_succ]))
  refine (new hM 2 (by omega) rfl).mono ?_
  rintro e w3 ⟨p0, s0, rfl, hn00, ok0, hm00, hH00, hM1⟩
  clear hM
  have hM := hM1
  clear hM1
  have hc00 := (Cs.start ok0 hH00).begin_
  replace hm00 := hid_ hm00
  replace hn00 := hid_ hn00
  clear hH00
  go_wp2_with (first
    | ((with_reducible refine wpl ?_); apply al_one (hM := hM) (ht := sl22); rfl; (first | exact want_none rfl | exact want_some rfl rfl rfl rfl); (first | (focus (go_simp; done)) | (focus (go_simp; rfl))); rfl; intro gb w1 hM1; clear hM; have hM := hM1; clear hM1; simp only [Act.put, List.setIfInBounds_toArray, List.set_cons_zero, List.set_cons_succ])
    | ((with_reducible refine wpl ?_); apply cv_same (hM := hM); rfl; (first | exact want_none rfl | exact want_some rfl rfl rfl rfl); exact und22; exact und5; rfl; (first | exact .head _ _ | exact .tail (.head _ _) | exact .tail (.tail (.head _ _)) | exact .tail (.tail (.tail (.head _ _))) | exact .tail (.tail (.tail (.tail (.head _ _)))) | exact .tail (.tail (.tail (.tail (.tail (.head _ _)))))); intro w1 hM1; clear hM; have hM := hM1; clear hM1; simp only [Act.put, List.setIfInBounds_toArray, List.set_cons_zero, List.set_cons_succ])
    | ((with_reducible refine wpl ?_); apply al_box (hM := hM); rfl; (first | exact want_none rfl | exact want_some rfl rfl rfl rfl); (first | (focus (go_simp; done)) | (focus (go_simp; rfl))); intro gb w1 hM1; clear hM; dsimp only [Value.cells] at hM1; have hM := hM1; clear hM1; simp only [Act.put, List.setIfInBounds_toArray, List.set_cons_zero, List.set_cons_succ])
    | ((with_reducible refine wpl ?_); apply al_zero (hM := hM); rfl; (first | exact want_none rfl | exact want_some rfl rfl rfl rfl); (first | exact zero41 | exact zero45); intro gz w1 hM1; clear hM; dsimp only [Value.cells] at hM1; have hM := hM1; clear hM1; simp only [Act.put, List.setIfInBounds_toArray, List.set_cons_zero, List.set_cons_succ])
    | ((with_reducible refine wpl ?_); apply ld_row (hM := hM); rfl; (first | exact want_none rfl | exact want_some rfl rfl rfl rfl); rfl; (first | exact .head _ _ | exact .tail (.head _ _) | exact .tail (.tail (.head _ _)) | exact .tail (.tail (.tail (.head _ _))) | exact .tail (.tail (.tail (.tail (.head _ _)))) | exact .tail (.tail (.tail (.tail (.tail (.head _ _)))))); (first | exact row41 | exact row45); simp only [Act.put, List.setIfInBounds_toArray, List.set_cons_zero, List.set_cons_succ])
    | ((with_reducible refine wpl ?_); apply st_row (hM := hM); rfl; (first | exact want_none rfl | exact want_some rfl rfl rfl rfl); rfl; (first | (focus (go_simp; done)) | (focus (go_simp; rfl))); (first | exact .head _ _ | exact .tail (.head _ _) | exact .tail (.tail (.head _ _)) | exact .tail (.tail (.tail (.head _ _))) | exact .tail (.tail (.tail (.tail (.head _ _)))) | exact .tail (.tail (.tail (.tail (.tail (.head _ _)))))); rfl; rfl; (first | exact row41 | exact row45); intro w1 hM1; clear hM; (try simp only [List.setIfInBounds_toArray, List.set_cons_zero, List.set_cons_succ] at hM1); (try rw [tab_setInt] at hM1);  have hM := hM1; clear hM1; simp only [Act.put, List.setIfInBounds_toArray, List.set_cons_zero, List.set_cons_succ])
    | ((with_reducible refine wpl ?_); apply ld_one (hM := hM); rfl; (first | exact want_none rfl | exact want_some rfl rfl rfl rfl); rfl; (first | exact .head _ _ | exact .tail (.head _ _) | exact .tail (.tail (.head _ _)) | exact .tail (.tail (.tail (.head _ _))) | exact .tail (.tail (.tail (.tail (.head _ _)))) | exact .tail (.tail (.tail (.tail (.tail (.head _ _)))))); (first | (focus (simp only [List.getElem?_toArray, List.getElem?_cons_zero, List.getElem?_cons_succ]; rfl)) | exact tab_get (by omega) | rfl); (first | exact one3 | exact one39); simp only [Act.put, List.setIfInBounds_toArray, List.set_cons_zero, List.set_cons_succ])
    | ((with_reducible refine wpl ?_); apply st_cell (hM := hM); rfl; (first | exact want_none rfl | exact want_some rfl rfl rfl rfl); rfl; (first | (focus (go_simp; done)) | (focus (go_simp; rfl))); (first | exact .head _ _ | exact .tail (.head _ _) | exact .tail (.tail (.head _ _)) | exact .tail (.tail (.tail (.head _ _))) | exact .tail (.tail (.tail (.tail (.head _ _)))) | exact .tail (.tail (.tail (.tail (.tail (.head _ _)))))); (first | (focus (simp; done)) | (focus (rw [tab_size]; omega))); rfl; (first | exact one3 | exact one39); intro w1 hM1; clear hM; (try simp only [List.setIfInBounds_toArray, List.set_cons_zero, List.set_cons_succ] at hM1); (try rw [tab_setInt] at hM1);  have hM := hM1; clear hM1; simp only [Act.put, List.setIfInBounds_toArray, List.set_cons_zero, List.set_cons_succ]))
  obtain ⟨B_hb1, hL_hb1, hM1, hb1⟩ := parkedB hM [120] rfl (Nat.le_refl _) (fun j hj => by match j, hj with | 0, _ => rfl)
  clear hM
  have hM := hM1
  clear hM1
  refine (cappend (c := none_) (b' := [120]) (v' := 1) hM hc00 ((In.nil _).cons (IdsAt.nil _)) hb1 (by decide) (by rw [hm00.out]; simp [more, mo, nd, none_]) rfl rfl rfl).mono ?_
  rintro e w3 ⟨s1, a1, m1, k1, L1, B1, rfl, hl1, hM1, hc1, hI1, hf1, ho1⟩
  clear hM
  have hM := hM1
  clear hM1
  clear hf1 ho1
  have hlen1 : L1.length = 1 := by have := hc1.len _ (List.mem_cons_self ..); simpa [nd] using this
  obtain ⟨i1, rfl⟩ : ∃ i, L1 = [i] := List.length_eq_one_iff.1 hlen1
  clear hlen1
  have hi1 : i1 < p0.n := hc1.mem _ (List.mem_cons_self ..) i1 (List.mem_singleton.2 rfl)
  have hH1 : Hid (s1.H i1 = 1) := hid_ (by rw [hc1.H]; simp [tot])
  have hI1' : IdsAt B1 (.slice a1 m1 k1) [i1] := hI1 _ (List.mem_cons_self ..)
  obtain ⟨ax, kx, hxx⟩ := (hI1' _ _ _ hM).len
  simp only [Value.slice.injEq, List.length_singleton] at hxx
  obtain ⟨rfl, rfl, rfl⟩ := hxx
  obtain ⟨a0, rfl, hcell1⟩ := Ints.cell (show Ints _ (.slice a1 [i1].length _) [i1] from hI1' _ _ _ hM) (i := 0) (by simp)
  clear hcell1
  have d0 : decide (n0 < 0) = false := decide_eq_false (by omega)
  have d1 : decide (n0 > 100) = true := decide_eq_true (by omega)
  go_wp2_with (first
    | ((with_reducible refine wpl ?_); apply ld_ids (hM := hM) (hI := hI1') (i := 0); rfl; (first | exact want_none rfl | exact want_some rfl rfl rfl rfl); (first | rfl | (focus (go_simp; done))); rfl; exact one3; simp only [Act.put, List.setIfInBounds_toArray, List.set_cons_zero, List.set_cons_succ])
    | ((with_reducible refine wpl ?_); apply al_box (hM := hM); rfl; (first | exact want_none rfl | exact want_some rfl rfl rfl rfl); (first | (focus (go_simp; done)) | (focus (go_simp; rfl))); intro gb w1 hM1; clear hM; dsimp only [Value.cells] at hM1; have hM := hM1; clear hM1; simp only [Act.put, List.setIfInBounds_toArray, List.set_cons_zero, List.set_cons_succ])
    | ((with_reducible refine wpl ?_); apply al_zero (hM := hM); rfl; (first | exact want_none rfl | exact want_some rfl rfl rfl rfl); (first | exact zero41 | exact zero45); intro gz w1 hM1; clear hM; dsimp only [Value.cells] at hM1; have hM := hM1; clear hM1; simp only [Act.put, List.setIfInBounds_toArray, List.set_cons_zero, List.set_cons_succ])
    | ((with_reducible refine wpl ?_); apply ld_row (hM := hM); rfl; (first | exact want_none rfl | exact want_some rfl rfl rfl rfl); rfl; (first | exact .head _ _ | exact .tail (.head _ _) | exact .tail (.tail (.head _ _)) | exact .tail (.tail (.tail (.head _ _))) | exact .tail (.tail (.tail (.tail (.head _ _)))) | exact .tail (.tail (.tail (.tail (.tail (.head _ _)))))); (first | exact row41 | exact row45); simp only [Act.put, List.setIfInBounds_toArray, List.set_cons_zero, List.set_cons_succ])
    | ((with_reducible refine wpl ?_); apply st_row (hM := hM); rfl; (first | exact want_none rfl | exact want_some rfl rfl rfl rfl); rfl; (first | (focus (go_simp; done)) | (focus (go_simp; rfl))); (first | exact .head _ _ | exact .tail (.head _ _) | exact .tail (.tail (.head _ _)) | exact .tail (.tail (.tail (.head _ _))) | exact .tail (.tail (.tail (.tail (.head _ _)))) | exact .tail (.tail (.tail (.tail (.tail (.head _ _)))))); rfl; rfl; (first | exact row41 | exact row45); intro w1 hM1; clear hM; (try simp only [List.setIfInBounds_toArray, List.set_cons_zero, List.set_cons_succ] at hM1); (try rw [tab_setInt] at hM1);  have hM := hM1; clear hM1; simp only [Act.put, List.setIfInBounds_toArray, List.set_cons_zero, List.set_cons_succ])
    | ((with_reducible refine wpl ?_); apply ld_one (hM := hM); rfl; (first | exact want_none rfl | exact want_some rfl rfl rfl rfl); rfl; (first | exact .head _ _ | exact .tail (.head _ _) | exact .tail (.tail (.head _ _)) | exact .tail (.tail (.tail (.head _ _))) | exact .tail (.tail (.tail (.tail (.head _ _)))) | exact .tail (.tail (.tail (.tail (.tail (.head _ _)))))); (first | (focus (simp only [List.getElem?_toArray, List.getElem?_cons_zero, List.getElem?_cons_succ]; rfl)) | exact tab_get (by omega) | rfl); (first | exact one3 | exact one39); simp only [Act.put, List.setIfInBounds_toArray, List.set_cons_zero, List.set_cons_succ])
    | ((with_reducible refine wpl ?_); apply st_cell (hM := hM); rfl; (first | exact want_none rfl | exact want_some rfl rfl rfl rfl); rfl; (first | (focus (go_simp; done)) | (focus (go_simp; rfl))); (first | exact .head _ _ | exact .tail (.head _ _) | exact .tail (.tail (.head _ _)) | exact .tail (.tail (.tail (.head _ _))) | exact .tail (.tail (.tail (.tail (.head _ _)))) | exact .tail (.tail (.tail (.tail (.tail (.head _ _)))))); (first | (focus (simp; done)) | (focus (rw [tab_size]; omega))); rfl; (first | exact one3 | exact one39); intro w1 hM1; clear hM; (try simp only [List.setIfInBounds_toArray, List.set_cons_zero, List.set_cons_succ] at hM1); (try rw [tab_setInt] at hM1);  have hM := hM1; clear hM1; simp only [Act.put, List.setIfInBounds_toArray, List.set_cons_zero, List.set_cons_succ]))
  refine (holds hM hc1.ok i1 hi1 1 hH1.out).mono ?_
  rintro e w3 ⟨rfl, hM1⟩
  clear hM
  have hM := hM1
  clear hM1
  go_wp2_with (first
    | ((with_reducible refine wpl ?_); apply al_box (hM := hM); rfl; (first | exact want_none rfl | exact want_some rfl rfl rfl rfl); (first | (focus (go_simp; done)) | (focus (go_simp; rfl))); intro gb w1 hM1; clear hM; dsimp only [Value.cells] at hM1; have hM := hM1; clear hM1; simp only [Act.put, List.setIfInBounds_toArray, List.set_cons_zero, List.set_cons_succ])
    | ((with_reducible refine wpl ?_); apply al_zero (hM := hM); rfl; (first | exact want_none rfl | exact want_some rfl rfl rfl rfl); (first | exact zero41 | exact zero45); intro gz w1 hM1; clear hM; dsimp only [Value.cells] at hM1; have hM := hM1; clear hM1; simp only [Act.put, List.setIfInBounds_toArray, List.set_cons_zero, List.set_cons_succ])
    | ((with_reducible refine wpl ?_); apply ld_row (hM := hM); rfl; (first | exact want_none rfl | exact want_some rfl rfl rfl rfl); rfl; (first | exact .head _ _ | exact .tail (.head _ _) | exact .tail (.tail (.head _ _)) | exact .tail (.tail (.tail (.head _ _))) | exact .tail (.tail (.tail (.tail (.head _ _)))) | exact .tail (.tail (.tail (.tail (.tail (.head _ _)))))); (first | exact row41 | exact row45); simp only [Act.put, List.setIfInBounds_toArray, List.set_cons_zero, List.set_cons_succ])
    | ((with_reducible refine wpl ?_); apply st_row (hM := hM); rfl; (first | exact want_none rfl | exact want_some rfl rfl rfl rfl); rfl; (first | (focus (go_simp; done)) | (focus (go_simp; rfl))); (first | exact .head _ _ | exact .tail (.head _ _) | exact .tail (.tail (.head _ _)) | exact .tail (.tail (.tail (.head _ _))) | exact .tail (.tail (.tail (.tail (.head _ _)))) | exact .tail (.tail (.tail (.tail (.tail (.head _ _)))))); rfl; rfl; (first | exact row41 | exact row45); intro w1 hM1; clear hM; (try simp only [List.setIfInBounds_toArray, List.set_cons_zero, List.set_cons_succ] at hM1); (try rw [tab_setInt] at hM1);  have hM := hM1; clear hM1; simp only [Act.put, List.setIfInBounds_toArray, List.set_cons_zero, List.set_cons_succ])
    | ((with_reducible refine wpl ?_); apply ld_one (hM := hM); rfl; (first | exact want_none rfl | exact want_some rfl rfl rfl rfl); rfl; (first | exact .head _ _ | exact .tail (.head _ _) | exact .tail (.tail (.head _ _)) | exact .tail (.tail (.tail (.head _ _))) | exact .tail (.tail (.tail (.tail (.head _ _)))) | exact .tail (.tail (.tail (.tail (.tail (.head _ _)))))); (first | (focus (simp only [List.getElem?_toArray, List.getElem?_cons_zero, List.getElem?_cons_succ]; rfl)) | exact tab_get (by omega) | rfl); (first | exact one3 | exact one39); simp only [Act.put, List.setIfInBounds_toArray, List.set_cons_zero, List.set_cons_succ])
    | ((with_reducible refine wpl ?_); apply st_cell (hM := hM); rfl; (first | exact want_none rfl | exact want_some rfl rfl rfl rfl); rfl; (first | (focus (go_simp; done)) | (focus (go_simp; rfl))); (first | exact .head _ _ | exact .tail (.head _ _) | exact .tail (.tail (.head _ _)) | exact .tail (.tail (.tail (.head _ _))) | exact .tail (.tail (.tail (.tail (.head _ _)))) | exact .tail (.tail (.tail (.tail (.tail (.head _ _)))))); (first | (focus (simp; done)) | (focus (rw [tab_size]; omega))); rfl; (first | exact one3 | exact one39); intro w1 hM1; clear hM; (try simp only [List.setIfInBounds_toArray, List.set_cons_zero, List.set_cons_succ] at hM1); (try rw [tab_setInt] at hM1);  have hM := hM1; clear hM1; simp only [Act.put, List.setIfInBounds_toArray, List.set_cons_zero, List.set_cons_succ]))
  have hl0 := hL_hb1.trans hl1
  go_ret
  exact ⟨rfl, (hl0.mem hM).below⟩

set_option maxRecDepth 100000 in
set_option maxHeartbeats 4000000 in
theorem whole_c (w : World) (n0 : Int) (b : Option Addr) (n c : Nat) (h : 0 ≤ n0) (h2 : n0 ≤ 100) (h3 : 60 < n) : Calls Try.prog 4 #[.int .i64 n0, .slice b n c] w fun e w' => e = .returned (.bool true) ∧ Below w.heap.size w w' := by
  have hM := Mem.start w
  go_enter Try.func4, Try.ntmps4
  go_wp2_with (first
    | ((with_reducible refine wpl ?_); apply al_box (hM := hM); rfl; (first | exact want_none rfl | exact want_some rfl rfl rfl rfl); (first | (focus (go_simp; done)) | (focus (go_simp; rfl))); intro gb w1 hM1; clear hM; dsimp only [Value.cells] at hM1; have hM := hM1; clear hM1; simp only [Act.put, List.setIfInBounds_toArray, List.set_cons_zero, List.set_cons_succ])
    | ((with_reducible refine wpl ?_); apply al_zero (hM := hM); rfl; (first | exact want_none rfl | exact want_some rfl rfl rfl rfl); (first | exact zero41 | exact zero45); intro gz w1 hM1; clear hM; dsimp only [Value.cells] at hM1; have hM := hM1; clear hM1; simp only [Act.put, List.setIfInBounds_toArray, List.set_cons_zero, List.set_cons_succ])
    | ((with_reducible refine wpl ?_); apply ld_row (hM := hM); rfl; (first | exact want_none rfl | exact want_some rfl rfl rfl rfl); rfl; (first | exact .head _ _ | exact .tail (.head _ _) | exact .tail (.tail (.head _ _)) | exact .tail (.tail (.tail (.head _ _))) | exact .tail (.tail (.tail (.tail (.head _ _)))) | exact .tail (.tail (.tail (.tail (.tail (.head _ _)))))); (first | exact row41 | exact row45); simp only [Act.put, List.setIfInBounds_toArray, List.set_cons_zero, List.set_cons_succ])
    | ((with_reducible refine wpl ?_); apply st_row (hM := hM); rfl; (first | exact want_none rfl | exact want_some rfl rfl rfl rfl); rfl; (first | (focus (go_simp; done)) | (focus (go_simp; rfl))); (first | exact .head _ _ | exact .tail (.head _ _) | exact .tail (.tail (.head _ _)) | exact .tail (.tail (.tail (.head _ _))) | exact .tail (.tail (.tail (.tail (.head _ _)))) | exact .tail (.tail (.tail (.tail (.tail (.head _ _)))))); rfl; rfl; (first | exact row41 | exact row45); intro w1 hM1; clear hM; (try simp only [List.setIfInBounds_toArray, List.set_cons_zero, List.set_cons_succ] at hM1); (try rw [tab_setInt] at hM1);  have hM := hM1; clear hM1; simp only [Act.put, List.setIfInBounds_toArray, List.set_cons_zero, List.set_cons_succ])
    | ((with_reducible refine wpl ?_); apply ld_one (hM := hM); rfl; (first | exact want_none rfl | exact want_some rfl rfl rfl rfl); rfl; (first | exact .head _ _ | exact .tail (.head _ _) | exact .tail (.tail (.head _ _)) | exact .tail (.tail (.tail (.head _ _))) | exact .tail (.tail (.tail (.tail (.head _ _)))) | exact .tail (.tail (.tail (.tail (.tail (.head _ _)))))); (first | (focus (simp only [List.getElem?_toArray, List.getElem?_cons_zero, List.getElem?_cons_succ]; rfl)) | exact tab_get (by omega) | rfl); (first | exact one3 | exact one39); simp only [Act.put, List.setIfInBounds_toArray, List.set_cons_zero, List.set_cons_succ])
    | ((with_reducible refine wpl ?_); apply st_cell (hM := hM); rfl; (first | exact want_none rfl | exact want_some rfl rfl rfl rfl); rfl; (first | (focus (go_simp; done)) | (focus (go_simp; rfl))); (first | exact .head _ _ | exact .tail (.head _ _) | exact .tail (.tail (.head _ _)) | exact .tail (.tail (.tail (.head _ _))) | exact .tail (.tail (.tail (.tail (.head _ _)))) | exact .tail (.tail (.tail (.tail (.tail (.head _ _)))))); (first | (focus (simp; done)) | (focus (rw [tab_size]; omega))); rfl; (first | exact one3 | exact one39); intro w1 hM1; clear hM; (try simp only [List.setIfInBounds_toArray, List.set_cons_zero, List.set_cons_succ] at hM1); (try rw [tab_setInt] at hM1);  have hM := hM1; clear hM1; simp only [Act.put, List.setIfInBounds_toArray, List.set_cons_zero, List.set_cons_succ]))
  refine (new hM 2 (by omega) rfl).mono ?_
  rintro e w3 ⟨p0, s0, rfl, hn00, ok0, hm00, hH00, hM1⟩
  clear hM
  have hM := hM1
  clear hM1
  have hc00 := (Cs.start ok0 hH00).begin_
  replace hm00 := hid_ hm00
  replace hn00 := hid_ hn00
  clear hH00
  go_wp2_with (first
    | ((with_reducible refine wpl ?_); apply al_one (hM := hM) (ht := sl22); rfl; (first | exact want_none rfl | exact want_some rfl rfl rfl rfl); (first | (focus (go_simp; done)) | (focus (go_simp; rfl))); rfl; intro gb w1 hM1; clear hM; have hM := hM1; clear hM1; simp only [Act.put, List.setIfInBounds_toArray, List.set_cons_zero, List.set_cons_succ])
    | ((with_reducible refine wpl ?_); apply cv_same (hM := hM); rfl; (first | exact want_none rfl | exact want_some rfl rfl rfl rfl); exact und22; exact und5; rfl; (first | exact .head _ _ | exact .tail (.head _ _) | exact .tail (.tail (.head _ _)) | exact .tail (.tail (.tail (.head _ _))) | exact .tail (.tail (.tail (.tail (.head _ _)))) | exact .tail (.tail (.tail (.tail (.tail (.head _ _)))))); intro w1 hM1; clear hM; have hM := hM1; clear hM1; simp only [Act.put, List.setIfInBounds_toArray, List.set_cons_zero, List.set_cons_succ])
    | ((with_reducible refine wpl ?_); apply al_box (hM := hM); rfl; (first | exact want_none rfl | exact want_some rfl rfl rfl rfl); (first | (focus (go_simp; done)) | (focus (go_simp; rfl))); intro gb w1 hM1; clear hM; dsimp only [Value.cells] at hM1; have hM := hM1; clear hM1; simp only [Act.put, List.setIfInBounds_toArray, List.set_cons_zero, List.set_cons_succ])
    | ((with_reducible refine wpl ?_); apply al_zero (hM := hM); rfl; (first | exact want_none rfl | exact want_some rfl rfl rfl rfl); (first | exact zero41 | exact zero45); intro gz w1 hM1; clear hM; dsimp only [Value.cells] at hM1; have hM := hM1; clear hM1; simp only [Act.put, List.setIfInBounds_toArray, List.set_cons_zero, List.set_cons_succ])
    | ((with_reducible refine wpl ?_); apply ld_row (hM := hM); rfl; (first | exact want_none rfl | exact want_some rfl rfl rfl rfl); rfl; (first | exact .head _ _ | exact .tail (.head _ _) | exact .tail (.tail (.head _ _)) | exact .tail (.tail (.tail (.head _ _))) | exact .tail (.tail (.tail (.tail (.head _ _)))) | exact .tail (.tail (.tail (.tail (.tail (.head _ _)))))); (first | exact row41 | exact row45); simp only [Act.put, List.setIfInBounds_toArray, List.set_cons_zero, List.set_cons_succ])
    | ((with_reducible refine wpl ?_); apply st_row (hM := hM); rfl; (first | exact want_none rfl | exact want_some rfl rfl rfl rfl); rfl; (first | (focus (go_simp; done)) | (focus (go_simp; rfl))); (first | exact .head _ _ | exact .tail (.head _ _) | exact .tail (.tail (.head _ _)) | exact .tail (.tail (.tail (.head _ _))) | exact .tail (.tail (.tail (.tail (.head _ _)))) | exact .tail (.tail (.tail (.tail (.tail (.head _ _)))))); rfl; rfl; (first | exact row41 | exact row45); intro w1 hM1; clear hM; (try simp only [List.setIfInBounds_toArray, List.set_cons_zero, List.set_cons_succ] at hM1); (try rw [tab_setInt] at hM1);  have hM := hM1; clear hM1; simp only [Act.put, List.setIfInBounds_toArray, List.set_cons_zero, List.set_cons_succ])
    | ((with_reducible refine wpl ?_); apply ld_one (hM := hM); rfl; (first | exact want_none rfl | exact want_some rfl rfl rfl rfl); rfl; (first | exact .head _ _ | exact .tail (.head _ _) | exact .tail (.tail (.head _ _)) | exact .tail (.tail (.tail (.head _ _))) | exact .tail (.tail (.tail (.tail (.head _ _)))) | exact .tail (.tail (.tail (.tail (.tail (.head _ _)))))); (first | (focus (simp only [List.getElem?_toArray, List.getElem?_cons_zero, List.getElem?_cons_succ]; rfl)) | exact tab_get (by omega) | rfl); (first | exact one3 | exact one39); simp only [Act.put, List.setIfInBounds_toArray, List.set_cons_zero, List.set_cons_succ])
    | ((with_reducible refine wpl ?_); apply st_cell (hM := hM); rfl; (first | exact want_none rfl | exact want_some rfl rfl rfl rfl); rfl; (first | (focus (go_simp; done)) | (focus (go_simp; rfl))); (first | exact .head _ _ | exact .tail (.head _ _) | exact .tail (.tail (.head _ _)) | exact .tail (.tail (.tail (.head _ _))) | exact .tail (.tail (.tail (.tail (.head _ _)))) | exact .tail (.tail (.tail (.tail (.tail (.head _ _)))))); (first | (focus (simp; done)) | (focus (rw [tab_size]; omega))); rfl; (first | exact one3 | exact one39); intro w1 hM1; clear hM; (try simp only [List.setIfInBounds_toArray, List.set_cons_zero, List.set_cons_succ] at hM1); (try rw [tab_setInt] at hM1);  have hM := hM1; clear hM1; simp only [Act.put, List.setIfInBounds_toArray, List.set_cons_zero, List.set_cons_succ]))
  obtain ⟨B_hb1, hL_hb1, hM1, hb1⟩ := parkedB hM [120] rfl (Nat.le_refl _) (fun j hj => by match j, hj with | 0, _ => rfl)
  clear hM
  have hM := hM1
  clear hM1
  refine (cappend (c := none_) (b' := [120]) (v' := 1) hM hc00 ((In.nil _).cons (IdsAt.nil _)) hb1 (by decide) (by rw [hm00.out]; simp [more, mo, nd, none_]) rfl rfl rfl).mono ?_
  rintro e w3 ⟨s1, a1, m1, k1, L1, B1, rfl, hl1, hM1, hc1, hI1, hf1, ho1⟩
  clear hM
  have hM := hM1
  clear hM1
  clear hf1 ho1
  have hlen1 : L1.length = 1 := by have := hc1.len _ (List.mem_cons_self ..); simpa [nd] using this
  obtain ⟨i1, rfl⟩ : ∃ i, L1 = [i] := List.length_eq_one_iff.1 hlen1
  clear hlen1
  have hi1 : i1 < p0.n := hc1.mem _ (List.mem_cons_self ..) i1 (List.mem_singleton.2 rfl)
  have hH1 : Hid (s1.H i1 = 1) := hid_ (by rw [hc1.H]; simp [tot])
  have hI1' : IdsAt B1 (.slice a1 m1 k1) [i1] := hI1 _ (List.mem_cons_self ..)
  obtain ⟨ax, kx, hxx⟩ := (hI1' _ _ _ hM).len
  simp only [Value.slice.injEq, List.length_singleton] at hxx
  obtain ⟨rfl, rfl, rfl⟩ := hxx
  obtain ⟨a0, rfl, hcell1⟩ := Ints.cell (show Ints _ (.slice a1 [i1].length _) [i1] from hI1' _ _ _ hM) (i := 0) (by simp)
  clear hcell1
  have d0 : decide (n0 < 0) = false := decide_eq_false (by omega)
  have d1 : decide (n0 > 100) = false := decide_eq_false (by omega)
  have d2 : decide ((n : Int) > 60) = true := decide_eq_true (by omega)
  go_wp2_with (first
    | ((with_reducible refine wpl ?_); apply ld_ids (hM := hM) (hI := hI1') (i := 0); rfl; (first | exact want_none rfl | exact want_some rfl rfl rfl rfl); (first | rfl | (focus (go_simp; done))); rfl; exact one3; simp only [Act.put, List.setIfInBounds_toArray, List.set_cons_zero, List.set_cons_succ])
    | ((with_reducible refine wpl ?_); apply al_box (hM := hM); rfl; (first | exact want_none rfl | exact want_some rfl rfl rfl rfl); (first | (focus (go_simp; done)) | (focus (go_simp; rfl))); intro gb w1 hM1; clear hM; dsimp only [Value.cells] at hM1; have hM := hM1; clear hM1; simp only [Act.put, List.setIfInBounds_toArray, List.set_cons_zero, List.set_cons_succ])
    | ((with_reducible refine wpl ?_); apply al_zero (hM := hM); rfl; (first | exact want_none rfl | exact want_some rfl rfl rfl rfl); (first | exact zero41 | exact zero45); intro gz w1 hM1; clear hM; dsimp only [Value.cells] at hM1; have hM := hM1; clear hM1; simp only [Act.put, List.setIfInBounds_toArray, List.set_cons_zero, List.set_cons_succ])
    | ((with_reducible refine wpl ?_); apply ld_row (hM := hM); rfl; (first | exact want_none rfl | exact want_some rfl rfl rfl rfl); rfl; (first | exact .head _ _ | exact .tail (.head _ _) | exact .tail (.tail (.head _ _)) | exact .tail (.tail (.tail (.head _ _))) | exact .tail (.tail (.tail (.tail (.head _ _)))) | exact .tail (.tail (.tail (.tail (.tail (.head _ _)))))); (first | exact row41 | exact row45); simp only [Act.put, List.setIfInBounds_toArray, List.set_cons_zero, List.set_cons_succ])
    | ((with_reducible refine wpl ?_); apply st_row (hM := hM); rfl; (first | exact want_none rfl | exact want_some rfl rfl rfl rfl); rfl; (first | (focus (go_simp; done)) | (focus (go_simp; rfl))); (first | exact .head _ _ | exact .tail (.head _ _) | exact .tail (.tail (.head _ _)) | exact .tail (.tail (.tail (.head _ _))) | exact .tail (.tail (.tail (.tail (.head _ _)))) | exact .tail (.tail (.tail (.tail (.tail (.head _ _)))))); rfl; rfl; (first | exact row41 | exact row45); intro w1 hM1; clear hM; (try simp only [List.setIfInBounds_toArray, List.set_cons_zero, List.set_cons_succ] at hM1); (try rw [tab_setInt] at hM1);  have hM := hM1; clear hM1; simp only [Act.put, List.setIfInBounds_toArray, List.set_cons_zero, List.set_cons_succ])
    | ((with_reducible refine wpl ?_); apply ld_one (hM := hM); rfl; (first | exact want_none rfl | exact want_some rfl rfl rfl rfl); rfl; (first | exact .head _ _ | exact .tail (.head _ _) | exact .tail (.tail (.head _ _)) | exact .tail (.tail (.tail (.head _ _))) | exact .tail (.tail (.tail (.tail (.head _ _)))) | exact .tail (.tail (.tail (.tail (.tail (.head _ _)))))); (first | (focus (simp only [List.getElem?_toArray, List.getElem?_cons_zero, List.getElem?_cons_succ]; rfl)) | exact tab_get (by omega) | rfl); (first | exact one3 | exact one39); simp only [Act.put, List.setIfInBounds_toArray, List.set_cons_zero, List.set_cons_succ])
    | ((with_reducible refine wpl ?_); apply st_cell (hM := hM); rfl; (first | exact want_none rfl | exact want_some rfl rfl rfl rfl); rfl; (first | (focus (go_simp; done)) | (focus (go_simp; rfl))); (first | exact .head _ _ | exact .tail (.head _ _) | exact .tail (.tail (.head _ _)) | exact .tail (.tail (.tail (.head _ _))) | exact .tail (.tail (.tail (.tail (.head _ _)))) | exact .tail (.tail (.tail (.tail (.tail (.head _ _)))))); (first | (focus (simp; done)) | (focus (rw [tab_size]; omega))); rfl; (first | exact one3 | exact one39); intro w1 hM1; clear hM; (try simp only [List.setIfInBounds_toArray, List.set_cons_zero, List.set_cons_succ] at hM1); (try rw [tab_setInt] at hM1);  have hM := hM1; clear hM1; simp only [Act.put, List.setIfInBounds_toArray, List.set_cons_zero, List.set_cons_succ]))
  refine (holds hM hc1.ok i1 hi1 1 hH1.out).mono ?_
  rintro e w3 ⟨rfl, hM1⟩
  clear hM
  have hM := hM1
  clear hM1
  go_wp2_with (first
    | ((with_reducible refine wpl ?_); apply al_box (hM := hM); rfl; (first | exact want_none rfl | exact want_some rfl rfl rfl rfl); (first | (focus (go_simp; done)) | (focus (go_simp; rfl))); intro gb w1 hM1; clear hM; dsimp only [Value.cells] at hM1; have hM := hM1; clear hM1; simp only [Act.put, List.setIfInBounds_toArray, List.set_cons_zero, List.set_cons_succ])
    | ((with_reducible refine wpl ?_); apply al_zero (hM := hM); rfl; (first | exact want_none rfl | exact want_some rfl rfl rfl rfl); (first | exact zero41 | exact zero45); intro gz w1 hM1; clear hM; dsimp only [Value.cells] at hM1; have hM := hM1; clear hM1; simp only [Act.put, List.setIfInBounds_toArray, List.set_cons_zero, List.set_cons_succ])
    | ((with_reducible refine wpl ?_); apply ld_row (hM := hM); rfl; (first | exact want_none rfl | exact want_some rfl rfl rfl rfl); rfl; (first | exact .head _ _ | exact .tail (.head _ _) | exact .tail (.tail (.head _ _)) | exact .tail (.tail (.tail (.head _ _))) | exact .tail (.tail (.tail (.tail (.head _ _)))) | exact .tail (.tail (.tail (.tail (.tail (.head _ _)))))); (first | exact row41 | exact row45); simp only [Act.put, List.setIfInBounds_toArray, List.set_cons_zero, List.set_cons_succ])
    | ((with_reducible refine wpl ?_); apply st_row (hM := hM); rfl; (first | exact want_none rfl | exact want_some rfl rfl rfl rfl); rfl; (first | (focus (go_simp; done)) | (focus (go_simp; rfl))); (first | exact .head _ _ | exact .tail (.head _ _) | exact .tail (.tail (.head _ _)) | exact .tail (.tail (.tail (.head _ _))) | exact .tail (.tail (.tail (.tail (.head _ _)))) | exact .tail (.tail (.tail (.tail (.tail (.head _ _)))))); rfl; rfl; (first | exact row41 | exact row45); intro w1 hM1; clear hM; (try simp only [List.setIfInBounds_toArray, List.set_cons_zero, List.set_cons_succ] at hM1); (try rw [tab_setInt] at hM1);  have hM := hM1; clear hM1; simp only [Act.put, List.setIfInBounds_toArray, List.set_cons_zero, List.set_cons_succ])
    | ((with_reducible refine wpl ?_); apply ld_one (hM := hM); rfl; (first | exact want_none rfl | exact want_some rfl rfl rfl rfl); rfl; (first | exact .head _ _ | exact .tail (.head _ _) | exact .tail (.tail (.head _ _)) | exact .tail (.tail (.tail (.head _ _))) | exact .tail (.tail (.tail (.tail (.head _ _)))) | exact .tail (.tail (.tail (.tail (.tail (.head _ _)))))); (first | (focus (simp only [List.getElem?_toArray, List.getElem?_cons_zero, List.getElem?_cons_succ]; rfl)) | exact tab_get (by omega) | rfl); (first | exact one3 | exact one39); simp only [Act.put, List.setIfInBounds_toArray, List.set_cons_zero, List.set_cons_succ])
    | ((with_reducible refine wpl ?_); apply st_cell (hM := hM); rfl; (first | exact want_none rfl | exact want_some rfl rfl rfl rfl); rfl; (first | (focus (go_simp; done)) | (focus (go_simp; rfl))); (first | exact .head _ _ | exact .tail (.head _ _) | exact .tail (.tail (.head _ _)) | exact .tail (.tail (.tail (.head _ _))) | exact .tail (.tail (.tail (.tail (.head _ _)))) | exact .tail (.tail (.tail (.tail (.tail (.head _ _)))))); (first | (focus (simp; done)) | (focus (rw [tab_size]; omega))); rfl; (first | exact one3 | exact one39); intro w1 hM1; clear hM; (try simp only [List.setIfInBounds_toArray, List.set_cons_zero, List.set_cons_succ] at hM1); (try rw [tab_setInt] at hM1);  have hM := hM1; clear hM1; simp only [Act.put, List.setIfInBounds_toArray, List.set_cons_zero, List.set_cons_succ]))
  have hl0 := hL_hb1.trans hl1
  go_ret
  exact ⟨rfl, (hl0.mem hM).below⟩

theorem walk (w : World) (y : Value) (ops : List Op3) (hO : Recs w 3 (OpRec w) y ops) (n0 : Int) : Calls Try.prog 4 #[.int .i64 n0, y] w fun e w' => e = .returned (.bool true) ∧ Below w.heap.size w w' := by
  by_cases h1 : n0 < 0
  · obtain ⟨b, c, rfl⟩ := hO.len
    exact whole_a w n0 b _ c h1
  by_cases h2 : 100 < n0
  · obtain ⟨b, c, rfl⟩ := hO.len
    exact whole_b w n0 b _ c (by omega) h2
  by_cases h3 : 60 < ops.length
  · obtain ⟨b, c, rfl⟩ := hO.len
    exact whole_c w n0 b _ c (by omega) (by omega) h3
  obtain ⟨n0, rfl⟩ := Int.eq_ofNat_of_zero_le (a := n0) (by omega)
  exact whole_ok w n0 y ops hO (by omega) (by omega)
end Go.Proofs.Ytiamkbmefllljaa.Whole
