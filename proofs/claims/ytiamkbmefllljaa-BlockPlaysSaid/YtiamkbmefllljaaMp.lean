/- Maps over whole numbers, as objects of a base: made, written, asked, thinned out, counted, gone through. No condition. -/
import Derived.Test.YtiamkbmefllljaaReg2
import Derived.Maps.RangeRun
set_option linter.unusedVariables false
namespace Go.Proofs.Ytiamkbmefllljaa.M
open Go.RowKit Go.ChangeMaps

/-- The entries es read as E: each key once. -/
structure IsM (es : Array MapEntry) (clk : Nat) (E : List (Int × Value)) : Prop where
  cells : es.toList.map (fun e => (e.key, e.val)) = E.map (fun p => (Value.int .i64 p.1, p.2))
  keys : (E.map Prod.fst).Nodup
  born : ∀ e ∈ es.toList, e.born < clk
  bnd : (es.toList.map (·.born)).Nodup

theorem find_none (q : IntKind) (k : Int) : ∀ (l : List MapEntry) (E : List (Int × Value)) (n : Nat), l.map (fun e => (e.key, e.val)) = E.map (fun p => (Value.int .i64 p.1, p.2)) → (∀ p ∈ E, p.1 ≠ k) →
    Instr.findNow (.int q) (.int .i64 k) l n = some none
  | [], _, _, _, _ => rfl
  | e :: l, [], _, h, _ => by simp at h
  | e :: l, p :: E, n, h, hk => by
    simp only [List.map_cons, List.cons.injEq, Prod.mk.injEq] at h
    have hne : (k == p.1) = false := beq_eq_false_iff_ne.2 (fun e => hk p (List.mem_cons_self ..) e.symm)
    unfold Instr.findNow
    rw [h.1.1]
    simp only [Instr.sameNow, if_true, hne]
    exact find_none q k l E (n + 1) h.2 (fun p hp => hk p (List.mem_cons_of_mem _ hp))

theorem find_some (q : IntKind) (k : Int) (v : Value) : ∀ (l : List MapEntry) (E : List (Int × Value)) (n : Nat), l.map (fun e => (e.key, e.val)) = E.map (fun p => (Value.int .i64 p.1, p.2)) → (E.map Prod.fst).Nodup → (k, v) ∈ E →
    ∃ i, Instr.findNow (.int q) (.int .i64 k) l n = some (some (n + i, v)) ∧ E[i]? = some (k, v)
  | [], E, _, h, _, hm => by
    have : E = [] := by simpa using h.symm
    subst this
    simp at hm
  | e :: l, [], _, h, _, _ => by simp at h
  | e :: l, p :: E, n, h, hn, hm => by
    simp only [List.map_cons, List.cons.injEq, Prod.mk.injEq] at h
    simp only [List.map_cons, List.nodup_cons] at hn
    unfold Instr.findNow
    rw [h.1.1, h.1.2]
    by_cases he : p.1 = k
    · have hv : p = (k, v) := by
        rcases List.mem_cons.1 hm with h1 | h1
        · exact h1.symm
        · exact absurd (List.mem_map.2 ⟨_, h1, rfl⟩) (he ▸ hn.1)
      have hbe : (k == p.1) = true := beq_iff_eq.2 he.symm
      refine ⟨0, ?_, by simp [hv]⟩
      simp only [Instr.sameNow, if_true, hbe]
      rw [hv]
      rfl
    · have hbe : (k == p.1) = false := beq_eq_false_iff_ne.2 (fun e => he e.symm)
      have hm' : (k, v) ∈ E := by
        rcases List.mem_cons.1 hm with h1 | h1
        · exact absurd (congrArg Prod.fst h1).symm he
        · exact h1
      obtain ⟨i, h1, h2⟩ := find_some q k v l E (n + 1) h.2 hn.2 hm'
      refine ⟨i + 1, ?_, by simpa using h2⟩
      simp only [Instr.sameNow, if_true, hbe]
      rw [h1]
      congr 3
      omega

section
variable {P : Program} {ops : Array Oper} {Q : Exit → Act → World → Prop} {a : Act} {w w' W : World} {w0 : Base} {o : Oper} {fr l : List Blk} {R : Act → World → Prop} {ms : List (Nat × Obj)} {g : Nat} {ob ob' : Obj}

/-- A base's first object turns. -/
theorem Mem.turn (h : Mem ⟨W, (g, ob) :: ms⟩ w fr l) (hne : ∀ x ∈ ms, x.1 ≠ g) (ho : Only w w' g) (hn : w'.heap[g]? = some ob') : Mem ⟨W, (g, ob') :: ms⟩ w' fr l := by
  have hk := h.kept (g, ob) (List.mem_cons_self ..)
  have hap := h.apart (g, ob) (List.mem_cons_self ..)
  refine ⟨⟨ho.os.trans h.below.os, ho.tape.trans h.below.tape, ho.output.trans h.below.output, by rw [ho.size]; exact h.size, fun k hlt => (ho.block k (fun e => ?_)).trans (h.below.block k hlt)⟩, h.nodup, fun b hb => ⟨(h.at_ b hb).1, (ho.block b.g (hap b hb)).trans (h.at_ b hb).2⟩, fun x hx => ?_, fun x hx b hb => ?_⟩
  · have := hk.1
    simp only at this hlt
    omega
  · rcases List.mem_cons.1 hx with rfl | hx
    · exact ⟨hk.1, hn⟩
    · have := h.kept x (List.mem_cons_of_mem _ hx)
      exact ⟨this.1, (ho.block x.1 (hne x hx)).trans this.2⟩
  · rcases List.mem_cons.1 hx with rfl | hx
    · exact hap b hb
    · exact h.apart x (List.mem_cons_of_mem _ hx) b hb

theorem only_setBlock (w : World) (g : Nat) (o : Obj) : Only w (setBlock w g o) g :=
  ⟨rfl, rfl, rfl, by simp [setBlock], fun k hk => by simp only [setBlock]; rw [Array.getElem?_setIfInBounds_ne (fun e => hk e.symm)]⟩

theorem setBlock_at {w : World} {g : Nat} {o o' : Obj} (h : w.heap[g]? = some o') : (setBlock w g o).heap[g]? = some o := by
  have hlt : g < w.heap.size := (Array.getElem?_eq_some_iff.1 h).1
  simp [setBlock, hlt]

theorem run_setObj_any {w : World} {r : Nat} {es : Array MapEntry} {clk : Nat} (hr : w.heap[r]? = some (.map es clk)) (o' : Obj) : (setObj r o').run P w = .ok () (setBlock w r o') := by
  simp [setObj, Sem.run, hr, setBlock]

theorem run_ck {b : Bool} {kt : TypeId} {q : IntKind} {k : Int} (w : World) (hkt : P.underlying kt = some (.int q)) : (Instr.checkKey b 10000 kt (.int .i64 k)).run P w = .ok () w := by
  show (Instr.checkKey b (9999 + 1) kt (.int .i64 k)).run P w = .ok () w
  rw [Instr.checkKey]
  simp [run_underlying hkt]
theorem run_fk {kt : TypeId} {q : IntKind} {k : Int} {l : List MapEntry} {r : Option (Nat × Value)} (w : World) (hkt : P.underlying kt = some (.int q)) (h : Instr.findNow (.int q) (.int .i64 k) l 0 = some r) : (Instr.findKey kt (.int .i64 k) l).run P w = .ok r w := by
  simp [Instr.findKey, run_underlying hkt, h]
theorem run_go {w : World} {r : Nat} {es : Array MapEntry} {clk : Nat} (hr : w.heap[r]? = some (.map es clk)) : (getObj r).run P w = .ok (.map es clk) w := by
  simp [getObj, Sem.run, hr]
theorem run_ks (w : World) (k : Int) : (Instr.keyThatStays (.int .i64 k) (.int .i64 k)).run P w = .ok (.int .i64 k) w := by
  have hsb : Instr.sameBits 10000 (.int .i64 k) (.int .i64 k) = true := by
    show Instr.sameBits (9999 + 1) (.int .i64 k) (.int .i64 k) = true
    rw [Instr.sameBits]
    simp
  simp [Instr.keyThatStays, hsb]

/-- A map is made. -/
theorem mp_make {t : TypeId} (hop : o.op = .makeMap t none) (hw : Region.wanted o (yielded ops a.tmps) = true) (hM : Mem w0 w fr l)
    (h : ∀ g w', (∀ x ∈ w0.ms, x.1 ≠ g) → IsM #[] 0 [] → Mem ⟨w0.w, (g, .map #[] 0) :: w0.ms⟩ w' fr l → R (a.put o.dst (.map (some g))) w') : WPK P ops Q R o a w :=
  wanted hw fun K hK => by
    unfold Oper.wp execOp
    simp only [hop, Instr.makeMap, Option.map_none, Sem.run_bind, Result.andThen_ok, newObj, Sem.run, Sem.run_pure]
    refine hK _ _ (h w.heap.size (w.alloc (.map #[] 0)) (fun x hx => ?_) ⟨rfl, List.nodup_nil, fun e he => by simp at he, List.nodup_nil⟩ (hM.newObj (below_alloc_ w _) (Nat.le_refl _) (heap_alloc_new w _)))
    have := hM.ltk hx
    omega

/-- A map is counted. -/
theorem mp_len {t kt et : TypeId} {x : Operand} {es : Array MapEntry} {clk : Nat} {E : List (Int × Value)} (hop : o.op = .call { callee := .builtin .len, args := #[x], argTypes := #[t] }) (hw : Region.wanted o (yielded ops a.tmps) = true)
    (hM : Mem ⟨W, (g, .map es clk) :: ms⟩ w fr l) (ht : P.underlying t = some (.map kt et)) (hx : a.eval x = .map (some g)) (hE : IsM es clk E)
    (h : R (a.put o.dst (.int .i64 (E.length : Nat))) w) : WPK P ops Q R o a w :=
  wanted hw fun K hK => by
    have hg := hM.kget (g := g) (o := .map es clk) (List.mem_cons_self ..)
    have hl : es.size = E.length := by
      have := congrArg List.length hE.cells
      simpa using this
    have hrun : (Builtin.len_ #[t] o.type #[.map (some g)]).run P w = .ok (.int .i64 (E.length : Nat)) w := by
      simp [Builtin.len_, run_underlying ht, getObj, Sem.run, hg, goInt, hl]
    unfold Oper.wp
    simp only [execOp, hop, resolve, Sem.run_bind, Sem.run_pure, Result.andThen_ok, invoke, builtin, List.map_toArray, List.map_cons, List.map_nil, hx, hrun]
    exact hK _ _ h

/-- A map is asked for a key that it has. -/
theorem mp_look {t kt et : TypeId} {x y : Operand} {ok : Bool} {q : IntKind} {es : Array MapEntry} {clk : Nat} {E : List (Int × Value)} {k : Int} {v : Value} (hop : o.op = .lookup t x y ok) (hw : Region.wanted o (yielded ops a.tmps) = true)
    (hM : Mem ⟨W, (g, .map es clk) :: ms⟩ w fr l) (ht : P.underlying t = some (.map kt et)) (hkt : P.underlying kt = some (.int q)) (hx : a.eval x = .map (some g)) (hy : a.eval y = .int .i64 k) (hE : IsM es clk E) (hk : (k, v) ∈ E)
    (h : R (a.put o.dst (if ok = true then .tuple #[v, .bool true] else v)) w) : WPK P ops Q R o a w :=
  wanted hw fun K hK => by
    have hg := hM.kget (g := g) (o := .map es clk) (List.mem_cons_self ..)
    obtain ⟨i, hf, _⟩ := find_some q k v es.toList E 0 hE.cells hE.keys hk
    have hrun : (Instr.lookup t (.map (some g)) (.int .i64 k) ok).run P w = .ok (if ok = true then .tuple #[v, .bool true] else v) w := by
      cases ok <;> simp [Instr.lookup, run_underlying ht, run_go hg, run_ck w hkt, run_fk w hkt hf]
    unfold Oper.wp execOp
    simp only [hop, hx, hy, Sem.run_bind, hrun, Result.andThen_ok]
    exact hK _ _ h

/-- .. that it hasn't. -/
theorem mp_look_no {t kt et : TypeId} {x y : Operand} {ok : Bool} {q : IntKind} {es : Array MapEntry} {clk : Nat} {E : List (Int × Value)} {k : Int} {z : Value} (hop : o.op = .lookup t x y ok) (hw : Region.wanted o (yielded ops a.tmps) = true)
    (hM : Mem ⟨W, (g, .map es clk) :: ms⟩ w fr l) (ht : P.underlying t = some (.map kt et)) (hkt : P.underlying kt = some (.int q)) (hz : zeroIs P et z) (hx : a.eval x = .map (some g)) (hy : a.eval y = .int .i64 k) (hE : IsM es clk E) (hk : ∀ p ∈ E, p.1 ≠ k)
    (h : R (a.put o.dst (if ok = true then .tuple #[z, .bool false] else z)) w) : WPK P ops Q R o a w :=
  wanted hw fun K hK => by
    have hg := hM.kget (g := g) (o := .map es clk) (List.mem_cons_self ..)
    have hf := find_none q k es.toList E 0 hE.cells hk
    have hrun : (Instr.lookup t (.map (some g)) (.int .i64 k) ok).run P w = .ok (if ok = true then .tuple #[z, .bool false] else z) w := by
      cases ok <;> simp [Instr.lookup, run_underlying ht, run_go hg, run_ck w hkt, run_fk w hkt hf, run_zeroValue w hz]
    unfold Oper.wp execOp
    simp only [hop, hx, hy, Sem.run_bind, hrun, Result.andThen_ok]
    exact hK _ _ h

/-- A key is written that the map hasn't. -/
theorem mp_new {t kt et : TypeId} {x y z : Operand} {q : IntKind} {es : Array MapEntry} {clk : Nat} {E : List (Int × Value)} {k : Int} {v : Value} (hop : o.op = .mapUpdate t x y z) (hw : Region.wanted o (yielded ops a.tmps) = true)
    (hM : Mem ⟨W, (g, .map es clk) :: ms⟩ w fr l) (hne : ∀ x ∈ ms, x.1 ≠ g) (ht : P.underlying t = some (.map kt et)) (hkt : P.underlying kt = some (.int q)) (hx : a.eval x = .map (some g)) (hy : a.eval y = .int .i64 k) (hv : a.eval z = v) (hE : IsM es clk E) (hk : ∀ p ∈ E, p.1 ≠ k)
    (h : ∀ es' clk' w', IsM es' clk' (E ++ [(k, v)]) → Mem ⟨W, (g, .map es' clk') :: ms⟩ w' fr l → R (a.put o.dst undef) w') : WPK P ops Q R o a w :=
  wanted hw fun K hK => by
    have hg := hM.kget (g := g) (o := .map es clk) (List.mem_cons_self ..)
    have hf := find_none q k es.toList E 0 hE.cells hk
    have hrun : (Instr.mapUpdate t (.map (some g)) (.int .i64 k) v).run P w = .ok () (setBlock w g (.map (es.push { key := .int .i64 k, val := v, born := clk }) (clk + 1))) := by
      simp [Instr.mapUpdate, run_underlying ht, run_go hg, run_ck w hkt, run_fk w hkt hf, run_setObj_any hg]
    unfold Oper.wp execOp
    simp only [hop, hx, hy, hv, Sem.run_bind, hrun, Result.andThen_ok]
    refine hK _ _ (h _ _ _ ⟨?_, ?_, ?_, ?_⟩ (hM.turn hne (only_setBlock w g _) (setBlock_at hg)))
    · simp only [Array.toList_push, List.map_append, List.map_cons, List.map_nil, hE.cells]
    · rw [List.map_append, List.nodup_append]
      refine ⟨hE.keys, by simp, fun u hu s hs e => ?_⟩
      obtain ⟨p, hp, rfl⟩ := List.mem_map.1 hu
      simp only [List.map_cons, List.map_nil, List.mem_singleton] at hs
      exact hk p hp (e.trans hs)
    · intro e he
      simp only [Array.toList_push, List.mem_append, List.mem_singleton] at he
      rcases he with he | rfl
      · have := hE.born e he; omega
      · simp only; omega
    · simp only [Array.toList_push, List.map_append, List.map_cons, List.map_nil]
      rw [List.nodup_append]
      refine ⟨hE.bnd, by simp, fun u hu s hs e => ?_⟩
      obtain ⟨p, hp, rfl⟩ := List.mem_map.1 hu
      simp only [List.mem_singleton] at hs
      have := hE.born p hp
      omega

theorem modify_map {es : Array MapEntry} {i : Nat} {E : List (Int × Value)} {k : Int} {v : Value} (h : es.toList.map (fun e => (e.key, e.val)) = E.map (fun p => (Value.int .i64 p.1, p.2))) (hi : E[i]? = some (k, v)) (v' : Value) :
    (es.modify i fun e => { e with key := .int .i64 k, val := v' }).toList.map (fun e => (e.key, e.val)) = (E.set i (k, v')).map (fun p => (Value.int .i64 p.1, p.2)) ∧ (es.modify i fun e => { e with key := .int .i64 k, val := v' }).toList.map (·.born) = es.toList.map (·.born) := by
  constructor
  · apply List.ext_getElem?
    intro j
    have hj := congrArg (fun l => l[j]?) h
    simp only [List.getElem?_map, Array.getElem?_toList] at hj
    simp only [List.getElem?_map, Array.getElem?_toList, Array.getElem?_modify, List.getElem?_set]
    by_cases e : i = j
    · subst e
      have hlt : i < E.length := (List.getElem?_eq_some_iff.1 hi).1
      rw [hi] at hj
      cases he : es[i]? with
      | none => simp [he] at hj
      | some u => simp [hlt]
    · simp only [if_neg e]
      exact hj
  · apply List.ext_getElem?
    intro j
    simp only [List.getElem?_map, Array.getElem?_toList, Array.getElem?_modify]
    by_cases e : i = j
    · subst e
      simp only [if_true]
      cases es[i]? <;> rfl
    · simp only [if_neg e]

/-- A key is written that the map has. -/
theorem mp_old {t kt et : TypeId} {x y z : Operand} {q : IntKind} {es : Array MapEntry} {clk : Nat} {E : List (Int × Value)} {k : Int} {u v : Value} (hop : o.op = .mapUpdate t x y z) (hw : Region.wanted o (yielded ops a.tmps) = true)
    (hM : Mem ⟨W, (g, .map es clk) :: ms⟩ w fr l) (hne : ∀ x ∈ ms, x.1 ≠ g) (ht : P.underlying t = some (.map kt et)) (hkt : P.underlying kt = some (.int q)) (hx : a.eval x = .map (some g)) (hy : a.eval y = .int .i64 k) (hv : a.eval z = v) (hE : IsM es clk E) (hk : (k, u) ∈ E)
    (h : ∀ es' clk' w' i, E[i]? = some (k, u) → IsM es' clk' (E.set i (k, v)) → Mem ⟨W, (g, .map es' clk') :: ms⟩ w' fr l → R (a.put o.dst undef) w') : WPK P ops Q R o a w :=
  wanted hw fun K hK => by
    have hg := hM.kget (g := g) (o := .map es clk) (List.mem_cons_self ..)
    obtain ⟨i, hf, hi⟩ := find_some q k u es.toList E 0 hE.cells hE.keys hk
    rw [Nat.zero_add] at hf
    have hel : ∃ e, es[i]? = some e ∧ e.key = .int .i64 k := by
      have hj := congrArg (fun l => l[i]?) hE.cells
      simp only [List.getElem?_map, Array.getElem?_toList, hi, Option.map_some] at hj
      cases he : es[i]? with
      | none => simp [he] at hj
      | some e =>
        simp only [he, Option.map_some, Option.some.injEq, Prod.mk.injEq] at hj
        exact ⟨e, rfl, hj.1⟩
    obtain ⟨e, he, hek⟩ := hel
    have hrun : (Instr.mapUpdate t (.map (some g)) (.int .i64 k) v).run P w = .ok () (setBlock w g (.map (es.modify i fun e => { e with key := .int .i64 k, val := v }) clk)) := by
      simp [Instr.mapUpdate, run_underlying ht, run_go hg, run_ck w hkt, run_fk w hkt hf, he, hek, run_ks, run_setObj_any hg]
    unfold Oper.wp execOp
    simp only [hop, hx, hy, hv, Sem.run_bind, hrun, Result.andThen_ok]
    obtain ⟨m1, m2⟩ := modify_map hE.cells hi v
    refine hK _ _ (h _ _ _ i hi ⟨m1, ?_, ?_, ?_⟩ (hM.turn hne (only_setBlock w g _) (setBlock_at hg)))
    · have e1 : (E.set i (k, v)).map Prod.fst = E.map Prod.fst := by
        apply List.ext_getElem?
        intro j
        simp only [List.getElem?_map, List.getElem?_set]
        by_cases e : i = j
        · subst e
          have hlt : i < E.length := (List.getElem?_eq_some_iff.1 hi).1
          rw [hi]
          simp [hlt]
        · simp only [if_neg e]
      rw [e1]
      exact hE.keys
    · intro e' he'
      have h1 : e'.born ∈ (es.modify i fun e => { e with key := .int .i64 k, val := v }).toList.map (·.born) := List.mem_map.2 ⟨e', he', rfl⟩
      rw [m2] at h1
      obtain ⟨e2, h2, h3⟩ := List.mem_map.1 h1
      rw [← h3]
      exact hE.born e2 h2
    · rw [m2]
      exact hE.bnd

theorem erase_map {es : Array MapEntry} {i : Nat} {E : List (Int × Value)} (h : es.toList.map (fun e => (e.key, e.val)) = E.map (fun p => (Value.int .i64 p.1, p.2))) :
    (es.eraseIdxIfInBounds i).toList.map (fun e => (e.key, e.val)) = (E.eraseIdx i).map (fun p => (Value.int .i64 p.1, p.2)) := by
  rw [Array.toList_eraseIdxIfInBounds, map_eraseIdx, h, ← map_eraseIdx]

/-- A key is taken out of a map. -/
theorem mp_del {t kt et : TypeId} {x y : Operand} {q : IntKind} {es : Array MapEntry} {clk : Nat} {E : List (Int × Value)} {k : Int} {u : Value} (hop : o.op = .call { callee := .builtin .delete, args := #[x, y], argTypes := #[t, kt] }) (hw : Region.wanted o (yielded ops a.tmps) = true)
    (hM : Mem ⟨W, (g, .map es clk) :: ms⟩ w fr l) (hne : ∀ x ∈ ms, x.1 ≠ g) (ht : P.underlying t = some (.map kt et)) (hkt : P.underlying kt = some (.int q)) (hx : a.eval x = .map (some g)) (hy : a.eval y = .int .i64 k) (hE : IsM es clk E) (hk : (k, u) ∈ E)
    (h : ∀ es' w' i, E[i]? = some (k, u) → IsM es' clk (E.eraseIdx i) → Mem ⟨W, (g, .map es' clk) :: ms⟩ w' fr l → R (a.put o.dst (.tuple #[])) w') : WPK P ops Q R o a w :=
  wanted hw fun K hK => by
    have hg := hM.kget (g := g) (o := .map es clk) (List.mem_cons_self ..)
    obtain ⟨i, hf, hi⟩ := find_some q k u es.toList E 0 hE.cells hE.keys hk
    rw [Nat.zero_add] at hf
    have hrun : (Builtin.delete_ #[t, kt] o.type #[.map (some g), .int .i64 k]).run P w = .ok (.tuple #[]) (setBlock w g (.map (es.eraseIdxIfInBounds i) clk)) := by
      simp [Builtin.delete_, run_underlying ht, run_go hg, run_ck w hkt, run_fk w hkt hf, run_setObj_any hg]
    unfold Oper.wp
    simp only [execOp, hop, resolve, Sem.run_bind, Sem.run_pure, Result.andThen_ok, invoke, builtin, List.map_toArray, List.map_cons, List.map_nil, hx, hy, hrun]
    have hsub : ∀ e, e ∈ (es.eraseIdxIfInBounds i).toList → e ∈ es.toList := fun e he => by
      rw [Array.toList_eraseIdxIfInBounds] at he
      exact List.mem_of_mem_eraseIdx he
    refine hK _ _ (h _ _ i hi ⟨erase_map hE.cells, ?_, fun e he => hE.born e (hsub e he), ?_⟩ (hM.turn hne (only_setBlock w g _) (setBlock_at hg)))
    · rw [map_eraseIdx]
      exact List.Pairwise.sublist (List.eraseIdx_sublist _ _) hE.keys
    · rw [Array.toList_eraseIdxIfInBounds, map_eraseIdx]
      exact List.Pairwise.sublist (List.eraseIdx_sublist _ _) hE.bnd

/-- In a region: what a run leaves in every world that meets S. -/
theorem rg_val {S : World → Prop} {md : Region.Mode} {fuel : Nat} {listed : Array Bool} (i : Nat) (v : Value) {oi : Oper} (hi : ops.toList[i]? = some oi) (hs : Region.noSelect ops = true) (hf : Region.free md ops listed i = true) (hr : (Region.ready md ops listed).contains i = true)
    (hQ : ∀ c a w, Q (.panic c) (a.put oi.dst v) w → Q (.panic c) a w) (hw : Region.wanted oi (yielded ops a.tmps) = true) (hy : ∀ w', S w' → (execOp a.eval oi).run P w' = .ok (.value v) w') (hS : S w)
    (h : wpAnyH P md ops Q S fuel (listed.setIfInBounds i true) (a.put oi.dst v) w) : wpAnyH P md ops Q S (fuel + 1) listed a w :=
  wpAnyH_take (by rw [← Array.getElem?_toList]; exact hi) hs hf hr hQ (.inl ⟨hw, hy⟩) hS h

theorem run_look_no {t kt et : TypeId} {x y : Operand} {q : IntKind} {es : Array MapEntry} {clk : Nat} {E : List (Int × Value)} {k : Int} {z : Value} {oi : Oper} (hop : oi.op = .lookup t x y false) (hg : w.heap[g]? = some (.map es clk)) (ht : P.underlying t = some (.map kt et)) (hkt : P.underlying kt = some (.int q)) (hz : zeroIs P et z)
    (hx : a.eval x = .map (some g)) (hy : a.eval y = .int .i64 k) (hE : IsM es clk E) (hk : ∀ p ∈ E, p.1 ≠ k) : (execOp a.eval oi).run P w = .ok (.value z) w := by
  have hf := find_none q k es.toList E 0 hE.cells hk
  have hrun : (Instr.lookup t (.map (some g)) (.int .i64 k) false).run P w = .ok z w := by
    simp [Instr.lookup, run_underlying ht, run_go hg, run_ck w hkt, run_fk w hkt hf, run_zeroValue w hz]
  unfold execOp
  simp only [hop, hx, hy, Sem.run_bind, hrun, Result.andThen_ok]
  rfl

/-! ## A map that nobody turns is gone through -/
/-- How far it has been gone through: V are the entries that came out, each once. -/
structure Seen (es : Array MapEntry) (seen : Array Nat) (V : List MapEntry) : Prop where
  sub : ∀ e ∈ V, e ∈ es.toList
  nodup : (V.map (·.born)).Nodup
  born : seen.toList = V.map (·.born)

theorem mp_range {t kt et : TypeId} {x : Operand} {es : Array MapEntry} {clk : Nat} (hop : o.op = .range t x) (hw : Region.wanted o (yielded ops a.tmps) = true)
    (hM : Mem ⟨W, (g, .map es clk) :: ms⟩ w fr l) (ht : P.underlying t = some (.map kt et)) (hx : a.eval x = .map (some g))
    (h : ∀ gi w', (∀ x ∈ (g, .map es clk) :: ms, x.1 ≠ gi) → Seen es #[] [] → Mem ⟨W, (gi, .mapIter (some g) clk #[] clk) :: (g, .map es clk) :: ms⟩ w' fr l → R (a.put o.dst (.pointer (some ⟨gi, 0, none⟩))) w') : WPK P ops Q R o a w :=
  wanted hw fun K hK => by
    have hg := hM.kget (g := g) (o := .map es clk) (List.mem_cons_self ..)
    have hrun : (Instr.range t (.map (some g))).run P w = .ok (.pointer (some ⟨w.heap.size, 0, none⟩)) (w.alloc (.mapIter (some g) clk #[] clk)) := by
      simp [Instr.range, run_underlying ht, run_go hg, newObj, Sem.run]
    unfold Oper.wp execOp
    simp only [hop, hx, Sem.run_bind, hrun, Result.andThen_ok]
    refine hK _ _ (h w.heap.size (w.alloc (.mapIter (some g) clk #[] clk)) (fun x hx => ?_) ⟨fun e he => by simp at he, List.nodup_nil, rfl⟩ (hM.newObj (below_alloc_ w _) (Nat.le_refl _) (heap_alloc_new w _)))
    have := hM.ltk hx
    omega

theorem mp_next {x : Operand} {gi : Nat} {es : Array MapEntry} {clk : Nat} {seen : Array Nat} {V : List MapEntry} {E : List (Int × Value)} (hop : o.op = .next x false) (hw : Region.wanted o (yielded ops a.tmps) = true)
    (hM : Mem ⟨W, (gi, .mapIter (some g) clk seen clk) :: (g, .map es clk) :: ms⟩ w fr l) (hne : ∀ x ∈ (g, Obj.map es clk) :: ms, x.1 ≠ gi) (hx : a.eval x = .pointer (some ⟨gi, 0, none⟩)) (hE : IsM es clk E) (hS : Seen es seen V)
    (h0 : ∀ w', (∀ e ∈ es.toList, e ∈ V) → Mem ⟨W, (gi, .mapIter (some g) clk seen clk) :: (g, .map es clk) :: ms⟩ w' fr l → R (a.put o.dst (.tuple #[.bool false])) w')
    (h1 : ∀ w' e, e ∈ es.toList → e ∉ V → Seen es (seen.push e.born) (V ++ [e]) → Mem ⟨W, (gi, .mapIter (some g) clk (seen.push e.born) clk) :: (g, .map es clk) :: ms⟩ w' fr l → R (a.put o.dst (.tuple #[.bool true, e.key, e.val])) w') : WPK P ops Q R o a w :=
  wanted hw fun K hK => by
    have hgi := hM.kget (g := gi) (o := .mapIter (some g) clk seen clk) (List.mem_cons_self ..)
    have hg := hM.kget (g := g) (o := .map es clk) (List.mem_cons_of_mem _ (List.mem_cons_self ..))
    unfold Oper.wp execOp
    rcases run_next_at (P := P) w o.type gi g clk clk seen es clk hgi hg hE.born (Nat.le_refl _) with ⟨hl, hrun⟩ | ⟨e, he, w1, hw1, hrun⟩
    · simp only [hop, hx, Sem.run_bind, hrun, Result.andThen_ok]
      refine hK _ _ (h0 w (fun e he => ?_) hM)
      have hc : seen.contains e.born = true := by
        by_cases hc : seen.contains e.born = true
        · exact hc
        · exfalso
          have : e ∈ (leftOf es seen).toList := by
            simp only [leftOf, Array.toList_filter, List.mem_filter]
            exact ⟨he, by simpa using hc⟩
          have hz : (leftOf es seen).toList = [] := List.eq_nil_of_length_eq_zero (by simpa using hl)
          rw [hz] at this
          simp at this
      have hm : e.born ∈ seen.toList := by simpa using hc
      rw [hS.born] at hm
      obtain ⟨e', h2, h3⟩ := List.mem_map.1 hm
      have h4 := find_born e es.toList hE.bnd he
      have h5 := find_born e' es.toList hE.bnd (hS.sub e' h2)
      rw [h3] at h5
      rw [h4] at h5
      rw [Option.some.inj h5]
      exact h2
    · simp only [hop, hx, Sem.run_bind, hrun, Result.andThen_ok]
      simp only [leftOf, Array.toList_filter, List.mem_filter] at he
      have hnv : e.born ∉ V.map (·.born) := by
        rw [← hS.born]
        have := he.2
        simpa using this
      have hM1 : Mem ⟨W, (gi, .mapIter (some g) clk seen clk) :: (g, .map es clk) :: ms⟩ w1 fr l := by
        rcases hw1 with rfl | rfl
        · exact hM
        · exact hM.step ((Below.refl _ _).drew)
      refine hK _ _ (h1 _ e he.1 (fun hin => hnv (List.mem_map.2 ⟨e, hin, rfl⟩)) ⟨fun e' h' => ?_, ?_, ?_⟩ (hM1.turn hne (only_setBlock w1 gi _) (setBlock_at (hM1.kget (g := gi) (o := .mapIter (some g) clk seen clk) (List.mem_cons_self ..)))))
      · rcases List.mem_append.1 h' with h' | h'
        · exact hS.sub e' h'
        · rw [List.mem_singleton] at h'
          rw [h']
          exact he.1
      · rw [List.map_append, List.nodup_append]
        refine ⟨hS.nodup, by simp, fun u hu s hs e => ?_⟩
        simp only [List.map_cons, List.map_nil, List.mem_singleton] at hs
        exact hnv (hs ▸ e ▸ hu)
      · rw [Array.toList_push, hS.born, List.map_append]; rfl

/-- An entry's key and value. -/
theorem IsM.entry {es : Array MapEntry} {clk : Nat} {E : List (Int × Value)} (hE : IsM es clk E) {e : MapEntry} (he : e ∈ es.toList) : ∃ k v, e.key = .int .i64 k ∧ e.val = v ∧ (k, v) ∈ E := by
  have h1 : (e.key, e.val) ∈ es.toList.map (fun e => (e.key, e.val)) := List.mem_map.2 ⟨e, he, rfl⟩
  rw [hE.cells] at h1
  obtain ⟨p, hp, h2⟩ := List.mem_map.1 h1
  simp only [Prod.mk.injEq] at h2
  exact ⟨p.1, p.2, h2.1.symm, h2.2.symm, hp⟩
theorem inj_of_nodup {α β : Type} (f : α → β) : ∀ l : List α, (l.map f).Nodup → ∀ a ∈ l, ∀ b ∈ l, f a = f b → a = b
  | [], _, a, ha, _, _, _ => by simp at ha
  | x :: l, hn, a, ha, b, hb, he => by
    simp only [List.map_cons, List.nodup_cons] at hn
    rcases List.mem_cons.1 ha with e1 | ha'
    · rcases List.mem_cons.1 hb with e2 | hb'
      · rw [e1, e2]
      · exact absurd (show f x ∈ l.map f from List.mem_map.2 ⟨b, hb', by rw [← he, e1]⟩) hn.1
    · rcases List.mem_cons.1 hb with e2 | hb'
      · exact absurd (show f x ∈ l.map f from List.mem_map.2 ⟨a, ha', by rw [he, e2]⟩) hn.1
      · exact inj_of_nodup f l hn.2 a ha' b hb' he

/-- Two entries of one key are one. -/
theorem IsM.key_inj {es : Array MapEntry} {clk : Nat} {E : List (Int × Value)} (hE : IsM es clk E) {e1 e2 : MapEntry} (h1 : e1 ∈ es.toList) (h2 : e2 ∈ es.toList) (h : e1.key = e2.key) : e1 = e2 := by
  have hk : es.toList.map (·.key) = (E.map Prod.fst).map (Value.int .i64) := by
    have := congrArg (List.map Prod.fst) hE.cells
    simpa [List.map_map, Function.comp_def] using this
  refine inj_of_nodup (·.key) es.toList ?_ e1 h1 e2 h2 h
  show (es.toList.map (·.key)).Nodup
  rw [hk]
  exact List.Pairwise.map _ (fun a b hab e => hab (by simpa using e)) hE.keys

/-- Nothing is left. -/
theorem mp_over {x : Operand} {gi : Nat} {es : Array MapEntry} {clk : Nat} {seen : Array Nat} {V : List MapEntry} {E : List (Int × Value)} (hop : o.op = .next x false) (hw : Region.wanted o (yielded ops a.tmps) = true)
    (hM : Mem ⟨W, (gi, .mapIter (some g) clk seen clk) :: (g, .map es clk) :: ms⟩ w fr l) (hne : ∀ x ∈ (g, Obj.map es clk) :: ms, x.1 ≠ gi) (hx : a.eval x = .pointer (some ⟨gi, 0, none⟩)) (hE : IsM es clk E) (hS : Seen es seen V) (hall : ∀ e ∈ es.toList, e ∈ V)
    (h : ∀ w', Mem ⟨W, (gi, .mapIter (some g) clk seen clk) :: (g, .map es clk) :: ms⟩ w' fr l → R (a.put o.dst (.tuple #[.bool false])) w') : WPK P ops Q R o a w :=
  mp_next hop hw hM hne hx hE hS (fun w' _ hM' => h w' hM') (fun _ e he hn _ _ => absurd (hall e he) hn)

/-- Something is left. -/
theorem mp_more {x : Operand} {gi : Nat} {es : Array MapEntry} {clk : Nat} {seen : Array Nat} {V : List MapEntry} {E : List (Int × Value)} (hop : o.op = .next x false) (hw : Region.wanted o (yielded ops a.tmps) = true)
    (hM : Mem ⟨W, (gi, .mapIter (some g) clk seen clk) :: (g, .map es clk) :: ms⟩ w fr l) (hne : ∀ x ∈ (g, Obj.map es clk) :: ms, x.1 ≠ gi) (hx : a.eval x = .pointer (some ⟨gi, 0, none⟩)) (hE : IsM es clk E) (hS : Seen es seen V) (hall : ¬ ∀ e ∈ es.toList, e ∈ V)
    (h : ∀ (w' : World) (e : MapEntry) (k : Int) (v : Value), Hid (e ∈ es.toList ∧ e ∉ V ∧ e.key = .int .i64 k ∧ e.val = v ∧ (k, v) ∈ E) → Seen es (seen.push e.born) (V ++ [e]) → Mem ⟨W, (gi, .mapIter (some g) clk (seen.push e.born) clk) :: (g, .map es clk) :: ms⟩ w' fr l → R (a.put o.dst (.tuple #[.bool true, .int .i64 k, v])) w') : WPK P ops Q R o a w :=
  mp_next hop hw hM hne hx hE hS (fun w' ha _ => absurd ha hall) (fun w' e he hn hS' hM' => by
    obtain ⟨k, v, h1, h2, h3⟩ := hE.entry he
    rw [h1, h2]
    exact h w' e k v (hd_ ⟨he, hn, h1, h2, h3⟩) hS' hM')

theorem mp_entry' {x : Operand} {gi : Nat} {es : Array MapEntry} {clk : Nat} {seen : Array Nat} {e : MapEntry} {E : List (Int × Value)} {k : Int} {v : Value} {V : List MapEntry} (hop : o.op = .entry x) (hw : Region.wanted o (yielded ops a.tmps) = true)
    (hM : Mem ⟨W, (gi, .mapIter (some g) clk (seen.push e.born) clk) :: (g, .map es clk) :: ms⟩ w fr l) (hx : a.eval x = .pointer (some ⟨gi, 0, none⟩)) (hE : IsM es clk E) (he : Hid (e ∈ es.toList ∧ e ∉ V ∧ e.key = .int .i64 k ∧ e.val = v ∧ (k, v) ∈ E))
    (h : R (a.put o.dst (.tuple #[.int .i64 k, v])) w) : WPK P ops Q R o a w :=
  wanted hw fun K hK => by
    have hgi := hM.kget (g := gi) (o := .mapIter (some g) clk (seen.push e.born) clk) (List.mem_cons_self ..)
    have hg := hM.kget (g := g) (o := .map es clk) (List.mem_cons_of_mem _ (List.mem_cons_self ..))
    obtain ⟨h1, h2, h3, h4, h5⟩ := he.out
    have hrun := run_entry_at (P := P) w gi g clk seen es clk e hgi hg h1 hE.bnd
    rw [h3, h4] at hrun
    unfold Oper.wp execOp
    simp only [hop, hx, Sem.run_bind, hrun, Result.andThen_ok]
    exact hK _ _ h

theorem nodup_len : ∀ (l1 l2 : List Nat), l1.Nodup → (∀ x ∈ l1, x ∈ l2) → l1.length ≤ l2.length
  | [], _, _, _ => Nat.zero_le _
  | x :: l1, l2, hn, hs => by
    rw [List.nodup_cons] at hn
    have hx : x ∈ l2 := hs x (List.mem_cons_self ..)
    have h1 := nodup_len l1 (l2.erase x) hn.2 (fun y hy => (List.mem_erase_of_ne (fun e => hn.1 (by rw [← e]; exact hy))).2 (hs y (List.mem_cons_of_mem _ hy)))
    rw [List.length_erase_of_mem hx] at h1
    have := List.length_pos_of_mem hx
    simp only [List.length_cons]
    omega

theorem Seen.le {es : Array MapEntry} {seen : Array Nat} {V : List MapEntry} (h : Seen es seen V) : V.length ≤ es.toList.length := by
  have h1 := nodup_len (V.map (·.born)) (es.toList.map (·.born)) h.nodup (fun x hx => by
    obtain ⟨e, he, rfl⟩ := List.mem_map.1 hx
    exact List.mem_map.2 ⟨e, h.sub e he, rfl⟩)
  simpa using h1

theorem IsM.len {es : Array MapEntry} {clk : Nat} {E : List (Int × Value)} (h : IsM es clk E) : es.toList.length = E.length := by
  have := congrArg List.length h.cells
  simpa using this

theorem mp_entry {x : Operand} {gi : Nat} {es : Array MapEntry} {clk : Nat} {seen : Array Nat} {e : MapEntry} {E : List (Int × Value)} (hop : o.op = .entry x) (hw : Region.wanted o (yielded ops a.tmps) = true)
    (hM : Mem ⟨W, (gi, .mapIter (some g) clk (seen.push e.born) clk) :: (g, .map es clk) :: ms⟩ w fr l) (hx : a.eval x = .pointer (some ⟨gi, 0, none⟩)) (hE : IsM es clk E) (he : e ∈ es.toList)
    (h : R (a.put o.dst (.tuple #[e.key, e.val])) w) : WPK P ops Q R o a w :=
  wanted hw fun K hK => by
    have hgi := hM.kget (g := gi) (o := .mapIter (some g) clk (seen.push e.born) clk) (List.mem_cons_self ..)
    have hg := hM.kget (g := g) (o := .map es clk) (List.mem_cons_of_mem _ (List.mem_cons_self ..))
    unfold Oper.wp execOp
    simp only [hop, hx, Sem.run_bind, run_entry_at (P := P) w gi g clk seen es clk e hgi hg he hE.bnd, Result.andThen_ok]
    exact hK _ _ h

end
end Go.Proofs.Ytiamkbmefllljaa.M
