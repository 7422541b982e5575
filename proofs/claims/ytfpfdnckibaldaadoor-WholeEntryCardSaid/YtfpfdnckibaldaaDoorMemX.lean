/- append, make, copy and slice literals over a memory of known blocks. No condition. -/
import Derived.Test.YtfpfdnckibaldaaDoorMem
import Derived.Deep.AppendSrc
import Derived.Laws.Append
import Derived.Laws.MakeOwn
import Derived.Great.BuildSlice
import Derived.Laws.CopyRow
import Derived.StillTailTactics
import Derived.Laws.IdiomStrings
namespace Go.Proofs.YtfpfdnckibaldaaDoor.M
open Go.RowKit

/-- t is a slice of e; e has so many cells and bytes and this zero. -/
structure SlTy (P : Program) (t e : TypeId) (size bytes : Nat) (z : Value) : Prop where
  u : P.underlying t = some (.slice e)
  i : (P.info? e).map (fun i => (i.size, i.bytes, i.zero)) = some (size, bytes, some z)

theorem SlTy.info {P : Program} {t e : TypeId} {size bytes : Nat} {z : Value} (h : SlTy P t e size bytes z) : ∃ i, P.info? e = some i ∧ i.size = size ∧ i.bytes = bytes ∧ i.zero = some z := by
  have := h.i
  cases hq : P.info? e with
  | none => simp [hq] at this
  | some i =>
    simp only [hq, Option.map_some, Option.some.injEq, Prod.mk.injEq] at this
    exact ⟨i, rfl, this.1, this.2.1, this.2.2⟩

section
variable {P : Program} {ops : Array Oper} {Q : Exit → Act → World → Prop} {a : Act} {w : World} {w0 : Base} {rest : List Oper} {o : Oper} {fr l r : List Blk} {R : Act → World → Prop}

/-- A slice literal. -/
theorem al_slice {t e : TypeId} {len size bytes : Nat} {z : Value} {parts : Array (Nat × Operand)} {cells : Array Value} (hop : o.op = .buildSlice t len parts) (hw : Region.wanted o (yielded ops a.tmps) = true) (hM : Mem w0 w fr l)
    (ht : SlTy P t e size bytes z) (hsmall : ¬ len * size > 2 ^ 24)
    (hf : Instr.fill (fun i => some (i * size, size)) ((Array.range (len * size)).map ((if len * size = 0 then #[] else z.cells)[· % (if len * size = 0 then #[] else z.cells).size]!)) (parts.map fun (i, x) => (i, a.eval x)).toList = some cells)
    (h : ∀ g w', Mem w0 w' fr (⟨g, cells, e, (0, 0)⟩ :: l) → R (a.put o.dst (.slice (some ⟨g, 0, none⟩) len len)) w') : WPK P ops Q R o a w :=
  wanted hw fun K hK => by
    obtain ⟨i, hi, rfl, rfl, hz⟩ := ht.info
    have hrun : (Instr.buildSlice t len (parts.map fun (i, x) => (i, a.eval x))).run P w = .ok (.slice (some ⟨w.heap.size, 0, none⟩) len len) (w.alloc (.cells cells e)) := by
      by_cases h0 : len * i.size = 0
      · simp only [if_pos h0] at hf
        simp [Instr.buildSlice, run_underlying ht.u, sizeOf, typeInfo, hi, h0, newRow] at hf ⊢
        simp [hf]
      · simp only [if_neg h0] at hf
        exact run_buildSlice w t e len _ cells i z ht.u hi hz hsmall h0 hf
    unfold Oper.wp execOp
    simp only [hop, Sem.run_bind, hrun, Result.andThen_ok]
    exact hK _ _ (h _ _ (hM.alloc cells e))

/-- make. -/
theorem al_make {t e : TypeId} {size bytes : Nat} {z : Value} {x y : Operand} {kx ky : IntKind} {n : Nat} (hop : o.op = .makeSlice t x y) (hw : Region.wanted o (yielded ops a.tmps) = true) (hM : Mem w0 w fr l)
    (ht : SlTy P t e size bytes z) (hx : a.eval x = .int kx n) (hy : a.eval y = .int ky n) (hb : bytes * n ≤ 281474976710656) (hn : n ≤ 4611686018427387904)
    (h : ∀ g w', Mem w0 w' fr (⟨g, madeCells z.cells (n * size), e, (0, 0)⟩ :: l) → R (a.put o.dst (.slice (some ⟨g, 0, none⟩) n n)) w') : WPK P ops Q R o a w :=
  wanted hw fun K hK => by
    obtain ⟨i, hi, rfl, rfl, hz⟩ := ht.info
    have hb' : (i.bytes : Int) * (n : Int) ≤ 281474976710656 := by
      have h : ((i.bytes * n : Nat) : Int) ≤ 281474976710656 := by omega
      rwa [Int.natCast_mul] at h
    have hrun := run_make (P := P) w t e i z ht.u hi hz kx ky n n (by omega) (by omega) hb' (by omega)
    simp only [Int.toNat_natCast] at hrun
    unfold Oper.wp execOp
    simp only [hop, hx, hy, Sem.run_bind, hrun, Result.andThen_ok]
    exact hK _ _ (h _ _ (hM.alloc _ e))

theorem run_append_fit (w : World) (t tx ty e : TypeId) (i : TypeInfo) (ht : P.underlying t = some (.slice e)) (hi : P.info? e = some i) (g k cap : Nat) (x : Value) (n : Nat) (news : List Value) (hs : Src P i.size tx x n news w)
    (hroom : k + n ≤ cap) (cur : Array Value) (te : TypeId) (hg : w.heap[g]? = some (.cells cur te (0, 0))) (hl : k * i.size + news.length ≤ cur.size) :
    (Builtin.append_ #[t, tx] ty #[.slice (some ⟨g, 0, none⟩) k cap, x]).run P w = .ok (.slice (some ⟨g, 0, none⟩) (k + n) cap) (w.setRow g (cur.toList.take (k * i.size) ++ news ++ cur.toList.drop (k * i.size + news.length)).toArray) := by
  have hst := run_storeCells_at P g (k * i.size) te news 0 cur w hg (by simpa using hl) hs.one
  simp only [Nat.add_zero] at hst
  rcases hs.kind with ⟨e', hk⟩ | hk <;> simp [Builtin.append_, run_underlying ht, run_underlying hk, sizeOf, typeInfo, hi, hs.len, hroom, hs.cells, Addr.add_lit, hst]

/-- What stands behind an append: the old cells, the new ones, and what was there or noughts. -/
structure Onto (cs cs' : Array Value) (news : List Value) (z : Array Value) (m N : Nat) : Prop where
  size : cs'.size = N
  old : ∀ j, j < m → cs'[j]? = cs[j]?
  new : ∀ j, j < news.length → cs'[m + j]? = news[j]?
  mem : ∀ v ∈ cs', v ∈ cs ∨ v ∈ news ∨ v ∈ z

theorem below_drew_alloc (w : World) (o : Obj) : Below w.heap.size w (w.drew.alloc o) := ((Below.refl w.heap.size w).drew).alloc (Nat.le_refl _) o

theorem Onto.of {cs : Array Value} {news tl : List Value} {z : Array Value} {m N : Nat} (hm : m ≤ cs.size) (hN : m + news.length + tl.length = N) (ht : ∀ v ∈ tl, v ∈ cs ∨ v ∈ news ∨ v ∈ z) :
    Onto cs (cs.toList.take m ++ news ++ tl).toArray news z m N := by
  have hl : (cs.toList.take m).length = m := by simp; omega
  refine ⟨by simp; omega, fun j hj => ?_, fun j hj => ?_, fun v hv => ?_⟩
  · rw [List.getElem?_toArray, List.append_assoc, List.getElem?_append_left (by omega), List.getElem?_take_of_lt hj, Array.getElem?_toList]
  · rw [List.getElem?_toArray, List.append_assoc, List.getElem?_append_right (by omega), hl, List.getElem?_append_left (by omega)]
    congr 1; omega
  · rw [List.mem_toArray, List.mem_append, List.mem_append] at hv
    rcases hv with (hv | hv) | hv
    · exact .inl (by simpa using List.mem_of_mem_take hv)
    · exact .inr (.inl hv)
    · exact ht v hv

theorem mem_zeroCells {z : Array Value} {n : Nat} {v : Value} (h : v ∈ Builtin.zeroCells z n) : v ∈ z := by
  unfold Builtin.zeroCells at h
  rw [Array.mem_map] at h
  obtain ⟨i, hi, rfl⟩ := h
  rw [Array.mem_range] at hi
  have hp : 0 < z.size := by
    rcases Nat.eq_zero_or_pos z.size with e | e
    · rw [e] at hi; simp at hi
    · exact e
  have hlt : i % z.size < z.size := Nat.mod_lt _ hp
  rw [getElem!_pos z _ hlt]
  exact Array.getElem_mem hlt

/-- append onto a known row. -/
theorem ap_own {t tx e : TypeId} {s x : Operand} {g k cap n size bytes : Nat} {cs : Array Value} {z : Value} {news : List Value}
    (hop : o.op = .call { callee := .builtin .append, args := #[s, x], argTypes := #[t, tx] }) (hw : Region.wanted o (yielded ops a.tmps) = true) (hM : Mem w0 w fr l)
    (ht : SlTy P t e size bytes z) (hzs : z.cells.size = size)
    (hs : a.eval s = .slice (some ⟨g, 0, none⟩) k cap) (hp : Pick l ⟨g, cs, e, (0, 0)⟩ r) (hcs : cs.size = cap * size) (hk : k ≤ cap)
    (hsrc : Src P size tx (a.eval x) n news w) (hb : (k + n) * bytes ≤ 140737488355328) (hn : k + n ≤ 4611686018427387904)
    (h : ∀ g' cap' cs' w', Mem w0 w' fr (⟨g', cs', e, (0, 0)⟩ :: r) → Onto cs cs' news z.cells (k * size) (cap' * size) → k + n ≤ cap' → (k + n ≤ cap → g' = g ∧ cap' = cap) → R (a.put o.dst (.slice (some ⟨g', 0, none⟩) (k + n) cap')) w') : WPK P ops Q R o a w :=
  wanted hw fun K hK => by
    obtain ⟨i, hi, rfl, rfl, hz⟩ := ht.info
    have hg := hM.get hp
    have hlen := hsrc.newsLen
    have hksz : k * i.size ≤ cs.size := by rw [hcs]; exact Nat.mul_le_mul_right _ hk
    by_cases hfit : k + n ≤ cap
    · have hsz : k * i.size + n * i.size ≤ cap * i.size := by rw [← Nat.add_mul]; exact Nat.mul_le_mul_right _ hfit
      have hrun := run_append_fit (P := P) w t tx o.type e i ht.u hi g k cap (a.eval x) n news hsrc hfit cs e hg (by omega)
      unfold Oper.wp
      simp only [execOp, hop, resolve, Sem.run_bind, Sem.run_pure, Result.andThen_ok, invoke, builtin, List.map_toArray, List.map_cons, List.map_nil, hs, hrun]
      refine hK _ _ (h g cap _ _ (hM.setRow hp _) (Onto.of hksz ?_ ?_) hfit (fun _ => ⟨rfl, rfl⟩))
      · rw [List.length_drop, show cs.toList.length = cs.size from rfl]; omega
      · intro v hv; exact .inl (by simpa using List.mem_of_mem_drop hv)
    · have hge := grownCap_ge w (k + n) cap e
      have holds : (Builtin.firstCells i.size k (.slice (some ⟨g, 0, none⟩) k cap)).run P w.drew = .ok (cs.toList.take (k * i.size)).toArray w.drew := by
        refine run_firstCells_some w.drew i.size k ⟨g, 0, none⟩ k cap _ (by simp; omega) (fun j u hu => ?_)
        have hj : j < k * i.size := by
          by_cases hj : j < k * i.size
          · exact hj
          · rw [List.getElem?_take_eq_none (by omega)] at hu; cases hu
        rw [List.getElem?_take_of_lt hj, Array.getElem?_toList] at hu
        rw [Addr.add_lit, Nat.zero_add]
        exact (hM.cell hp j).trans hu
      have hrun := run_append_grow_src (P := P) w t tx o.type e i z ht.u hi hz (some ⟨g, 0, none⟩) k cap _ holds (a.eval x) n news hsrc (by omega) (by omega) (growslice_fits (by omega) hb)
      unfold Oper.wp
      simp only [execOp, hop, resolve, Sem.run_bind, Sem.run_pure, Result.andThen_ok, invoke, builtin, List.map_toArray, List.map_cons, List.map_nil, hs, hrun]
      have hM2 : Mem w0 (w.drew.alloc (.cells ((cs.toList.take (k * i.size) ++ news).toArray ++ Builtin.zeroCells z.cells (grownCap w (k + n) cap e - (k + n))) e)) fr
          (⟨w.heap.size, (cs.toList.take (k * i.size) ++ news).toArray ++ Builtin.zeroCells z.cells (grownCap w (k + n) cap e - (k + n)), e, (0, 0)⟩ :: r) :=
        (hM.sub (.cons hp (.same r))).tail.new (below_drew_alloc w _) _ _ (Nat.le_refl _) (heap_alloc_new w.drew _)
      refine hK _ _ (h _ (grownCap w (k + n) cap e) _ _ hM2 ?_ hge (fun hf => absurd hf hfit))
      have hcat : (cs.toList.take (k * i.size) ++ news).toArray ++ Builtin.zeroCells z.cells (grownCap w (k + n) cap e - (k + n)) =
          (cs.toList.take (k * i.size) ++ news ++ (Builtin.zeroCells z.cells (grownCap w (k + n) cap e - (k + n))).toList).toArray := by
        apply Array.ext'; simp
      rw [hcat]
      refine Onto.of hksz ?_ ?_
      · rw [show (Builtin.zeroCells z.cells (grownCap w (k + n) cap e - (k + n))).toList.length = (Builtin.zeroCells z.cells (grownCap w (k + n) cap e - (k + n))).size from rfl]
        simp only [Builtin.zeroCells, Array.size_map, Array.size_range, hzs, hlen]
        rw [← Nat.add_mul, ← Nat.add_mul]
        congr 1; omega
      · intro v hv; exact .inr (.inr (mem_zeroCells (by simpa using hv)))

/-- append onto nil. -/
theorem ap_nil {t tx e : TypeId} {s x : Operand} {n size bytes : Nat} {z : Value} {news : List Value}
    (hop : o.op = .call { callee := .builtin .append, args := #[s, x], argTypes := #[t, tx] }) (hw : Region.wanted o (yielded ops a.tmps) = true) (hM : Mem w0 w fr l)
    (ht : SlTy P t e size bytes z) (hzs : z.cells.size = size)
    (hs : a.eval s = .slice none 0 0)
    (hsrc : Src P size tx (a.eval x) n news w) (hb : n * bytes ≤ 140737488355328) (hn : n ≤ 4611686018427387904) (h0 : 0 < n)
    (h : ∀ g' cap' cs' w', Mem w0 w' fr (⟨g', cs', e, (0, 0)⟩ :: l) → Onto #[] cs' news z.cells 0 (cap' * size) → n ≤ cap' → R (a.put o.dst (.slice (some ⟨g', 0, none⟩) n cap')) w') : WPK P ops Q R o a w :=
  wanted hw fun K hK => by
    obtain ⟨i, hi, rfl, rfl, hz⟩ := ht.info
    have hlen := hsrc.newsLen
    have hge := grownCap_ge w (0 + n) 0 e
    have hrun := run_append_grow_src (P := P) w t tx o.type e i z ht.u hi hz none 0 0 [] (run_firstCells_none w.drew i.size 0 0 0) (a.eval x) n news hsrc (by omega) (by omega) (growslice_fits (by omega) (by simpa using hb))
    unfold Oper.wp
    simp only [execOp, hop, resolve, Sem.run_bind, Sem.run_pure, Result.andThen_ok, invoke, builtin, List.map_toArray, List.map_cons, List.map_nil, hs, hrun]
    have hM2 := hM.new (below_drew_alloc w (.cells (([] ++ news).toArray ++ Builtin.zeroCells z.cells (grownCap w (0 + n) 0 e - (0 + n))) e)) _ _ (Nat.le_refl _) (heap_alloc_new w.drew _)
    rw [Nat.zero_add] at hM2 hge ⊢
    refine hK _ _ (h _ (grownCap w n 0 e) _ _ hM2 ?_ hge)
    have hcat : ([] ++ news).toArray ++ Builtin.zeroCells z.cells (grownCap w n 0 e - n) =
        ((#[] : Array Value).toList.take 0 ++ news ++ (Builtin.zeroCells z.cells (grownCap w n 0 e - n)).toList).toArray := by
      apply Array.ext'; simp
    rw [hcat]
    refine Onto.of (by simp) ?_ ?_
    · rw [show (Builtin.zeroCells z.cells (grownCap w n 0 e - n)).toList.length = (Builtin.zeroCells z.cells (grownCap w n 0 e - n)).size from rfl]
      simp only [Builtin.zeroCells, Array.size_map, Array.size_range, hzs, hlen, Nat.zero_add]
      rw [← Nat.add_mul]
      congr 1; omega
    · intro v hv; exact .inr (.inr (mem_zeroCells (by simpa using hv)))

/-- What stands behind cells that were laid over. -/
def lay (cs : Array Value) (o : Nat) (vs : List Value) : Array Value := (cs.toList.take o ++ vs ++ cs.toList.drop (o + vs.length)).toArray

theorem lay_size {cs : Array Value} {o : Nat} {vs : List Value} (h : o + vs.length ≤ cs.size) : (lay cs o vs).size = cs.size := by
  simp [lay]; omega

theorem lay_get {cs : Array Value} {o : Nat} {vs : List Value} (h : o + vs.length ≤ cs.size) (j : Nat) : (lay cs o vs)[j]? = if o ≤ j ∧ j < o + vs.length then vs[j - o]? else cs[j]? := by
  have hl : (cs.toList.take o).length = o := by simp; omega
  unfold lay
  rw [List.getElem?_toArray, List.append_assoc]
  by_cases h1 : j < o
  · rw [List.getElem?_append_left (by omega), List.getElem?_take_of_lt h1, if_neg (by omega), Array.getElem?_toList]
  · rw [List.getElem?_append_right (by omega), hl]
    by_cases h2 : j < o + vs.length
    · rw [List.getElem?_append_left (by omega), if_pos ⟨by omega, h2⟩]
    · rw [List.getElem?_append_right (by omega), List.getElem?_drop, if_neg (by omega), Array.getElem?_toList]
      congr 1; omega

theorem run_storeVar_at (w : World) (g q : Nat) (t ty : TypeId) (cs cells : Array Value) (hg : w.heap[g]? = some (.cells cs t (0, 0))) (hi : (P.info? ty).map (·.size) = some cells.size)
    (hq : q + cells.size ≤ cs.size) (h1 : allOne cells.toList = true) : (storeVar ty ⟨g, q, none⟩ (.agg cells)).run P w = .ok () (w.setRow g (lay cs q cells.toList)) := by
  have hst := run_storeCells_at P g q t cells.toList 0 cs w hg (by simpa using hq) (allOne_iff.1 h1)
  cases hx : P.info? ty with
  | none => simp [hx] at hi
  | some i =>
    have hs : i.size = cells.size := by simpa [hx] using hi
    simp only [Nat.add_zero] at hst
    simp [storeVar, sizeOf, typeInfo, hx, Value.cells, hs, hst, lay]

/-- A struct or an array is written whole, in the middle of a known row. -/
theorem st_at {ty : TypeId} {x y : Operand} {g q : Nat} {cs cells : Array Value} {t : TypeId} (hop : o.op = .store ty x y) (hw : Region.wanted o (yielded ops a.tmps) = true) (hM : Mem w0 w fr l)
    (hx : a.eval x = .pointer (some ⟨g, q, none⟩)) (hy : a.eval y = .agg cells) (hp : Pick l ⟨g, cs, t, (0, 0)⟩ r) (hs : q + cells.size ≤ cs.size) (h1 : allOne cells.toList = true) (ht : RowTy P ty cells.size)
    (h : ∀ w', Mem w0 w' fr (⟨g, lay cs q cells.toList, t, (0, 0)⟩ :: r) → R (a.put o.dst undef) w') : WPK P ops Q R o a w :=
  wanted hw fun K hK => by
    unfold Oper.wp execOp
    simp only [hop, hx, hy, Instr.storeAt, Instr.sureAddr, Sem.run_bind, Sem.run_pure, Result.andThen_ok, run_storeVar_at w g q t ty cs cells (hM.get hp) ht.size hs h1]
    exact hK _ _ (h _ (hM.setRow hp _))

theorem run_loadVar_at (w : World) (g q : Nat) (t ty : TypeId) (cs : Array Value) (fz : Nat × Nat) (vs : List Value) (hg : w.heap[g]? = some (.cells cs t fz)) (ht : RowTy P ty vs.length)
    (hv : ∀ j v, vs[j]? = some v → cs[q + j]? = some v) : (loadVar ty ⟨g, q, none⟩).run P w = .ok (.agg vs.toArray) w := by
  obtain ⟨d, hu, hd⟩ := ht.agg
  have hl : (loadCells ⟨g, q, none⟩ vs.length).run P w = .ok vs.toArray w :=
    run_loadCells_list (P := P) w ⟨g, q, none⟩ vs (fun j v hj => by
      rw [Addr.add_lit, cell_of_row w g (q + j) cs t fz hg]
      exact hv j v hj)
  have hi := ht.size
  cases hq : P.info? ty with
  | none => simp [hq] at hi
  | some i =>
    have hs : i.size = vs.length := by simpa [hq] using hi
    have hagg : (isAgg ty).run P w = .ok true w := by
      unfold isAgg
      rw [Sem.run_bind, run_underlying hu w]
      cases d <;> simp_all
    simp [loadVar, Sem.run_bind, hagg, sizeOf, typeInfo, hq, hs, hl]

/-- A struct or an array is read whole, in the middle of a known row. -/
theorem ld_at {ty : TypeId} {x : Operand} {g q : Nat} {cs : Array Value} {t : TypeId} {fz : Nat × Nat} (vs : List Value) (hop : o.op = .load ty x) (hw : Region.wanted o (yielded ops a.tmps) = true) (hM : Mem w0 w fr l)
    (hx : a.eval x = .pointer (some ⟨g, q, none⟩)) (hp : Pick l ⟨g, cs, t, fz⟩ r) (hv : ∀ j v, vs[j]? = some v → cs[q + j]? = some v) (ht : RowTy P ty vs.length)
    (h : R (a.put o.dst (.agg vs.toArray)) w) : WPK P ops Q R o a w :=
  wanted hw fun K hK => by
    unfold Oper.wp execOp
    simp only [hop, hx, Instr.loadAt, Instr.sureAddr, Sem.run_bind, Sem.run_pure, Result.andThen_ok, run_loadVar_at w g q t ty cs fz vs (hM.get hp) ht hv]
    exact hK _ _ h

/-- A byte as a cell. -/
def u8 (b : UInt8) : Value := .int .u8 (b.toNat : Int)

/-- A slice of bytes, as it stands in w. -/
inductive Bytes (w : World) : Value → List UInt8 → Prop
  | nil : Bytes w (.slice none 0 0) []
  | at_ (a : Addr) (l : List UInt8) (c : Nat) (hc : l.length ≤ c) (h : ∀ j (b : UInt8), l[j]? = some b → w.cell? (a.add j) = some (u8 b)) : Bytes w (.slice (some a) l.length c) l

theorem Bytes.len {w : World} {x : Value} {l : List UInt8} (h : Bytes w x l) : ∃ b c, x = .slice b l.length c := by
  cases h with
  | nil => exact ⟨none, 0, rfl⟩
  | at_ a l c _ _ => exact ⟨some a, c, rfl⟩

theorem Bytes.src {w : World} {x : Value} {l : List UInt8} {tx e' : TypeId} (h : Bytes w x l) (hk : P.underlying tx = some (.slice e')) : Src P 1 tx x l.length (l.map u8) w := by
  cases h with
  | nil => exact Src.ofNil w hk 0
  | at_ a l c _ h =>
    refine Src.ofSlice w hk a l.length c _ (by simp) (fun j u hu => ?_) (fun u hu => ?_)
    · rw [List.getElem?_map] at hu
      cases hb : l[j]? with
      | none => simp [hb] at hu
      | some b =>
        simp only [hb, Option.map_some, Option.some.injEq] at hu
        rw [h j b hb, hu]
    · obtain ⟨b, _, rfl⟩ := List.mem_map.1 hu
      rfl

/-- Bytes that stand in a known block. -/
theorem Mem.bytes {g q n c : Nat} {cs : Array Value} {t : TypeId} {fz : Nat × Nat} {bs : List UInt8} (hM : Mem w0 w fr l) (hp : Pick l ⟨g, cs, t, fz⟩ r) (hn : bs.length = n) (hc : n ≤ c) (h : ∀ j (b : UInt8), bs[j]? = some b → cs[q + j]? = some (u8 b)) :
    Bytes w (.slice (some ⟨g, q, Option.none⟩) n c) bs := by
  subst hn
  refine .at_ _ _ _ hc (fun j b hj => ?_)
  rw [Addr.add_lit, hM.cell hp]
  exact h j b hj

/-- Bytes that came in. -/
theorem Bytes.old {x : Value} {bs : List UInt8} (h : Bytes w0.w x bs) (hl : ∀ a n c, x = .slice (some a) n c → a.block < w0.w.heap.size) (hM : Mem w0 w fr l) : Bytes w x bs := by
  cases h with
  | nil => exact .nil
  | at_ a bs c hc h => exact .at_ a bs c hc (fun j b hj => (hM.oldCell (a := a.add j) (by unfold Addr.add; split <;> exact hl a _ c rfl)).trans (h j b hj))

/-- A string of bytes. -/
theorem cv_bs {src dst e : TypeId} {x : Operand} {bs : List UInt8} (hop : o.op = .convert src dst x) (hw : Region.wanted o (yielded ops a.tmps) = true)
    (hs : P.underlying src = some (.slice e)) (he : P.underlying e = some (.int .u8)) (hd : P.underlying dst = some .string) (hB : Bytes w (a.eval x) bs)
    (h : R (a.put o.dst (.string ⟨bs.toArray⟩)) w) : WPK P ops Q R o a w :=
  wanted hw fun K hK => by
    have hrun : (convert src dst (a.eval x)).run P w = .ok (.string ⟨bs.toArray⟩) w := by
      generalize a.eval x = v at hB
      cases hB with
      | nil =>
        rw [run_convert_bytes_string w src dst e none 0 0 hs he hd]
        rfl
      | at_ ad bs c _ h =>
        refine run_convert_bytes_back w src dst e ad c bs hs he hd (fun j hj => h j bs[j] (by simp [hj]))
    unfold Oper.wp execOp
    simp only [hop, Sem.run_bind, hrun, Result.andThen_ok]
    exact hK _ _ h

theorem bytesRow_get (s : ByteArray) (n j : Nat) (b : UInt8) (h : s.data.toList[j]? = some b) : (bytesRow s n)[j]? = some (u8 b) := by
  have hj : j < s.data.size := by
    rw [← Array.length_toList]
    exact (List.getElem?_eq_some_iff.1 h).1
  rw [Array.getElem?_toList] at h
  unfold bytesRow
  rw [Array.getElem?_append_left (by simpa using hj), Array.getElem?_map, h]
  rfl

/-- Bytes of a string. -/
theorem cv_sb {src dst e : TypeId} {x : Operand} {s : ByteArray} (hop : o.op = .convert src dst x) (hw : Region.wanted o (yielded ops a.tmps) = true) (hM : Mem w0 w fr l)
    (hs : P.underlying src = some .string) (hd : P.underlying dst = some (.slice e)) (he : P.underlying e = some (.int .u8)) (hx : a.eval x = .string s)
    (h : ∀ (g cap : Nat) (fz : Nat × Nat) (cs : Array Value) w', Mem w0 w' fr (⟨g, cs, e, fz⟩ :: l) → (∀ (j : Nat) (b : UInt8), s.data.toList[j]? = some b → cs[j]? = some (u8 b)) → R (a.put o.dst (.slice (some ⟨g, 0, none⟩) s.size cap)) w') : WPK P ops Q R o a w :=
  wanted hw fun K hK => by
    have hrun := run_bytes_of_string (P := P) w src dst e s hs hd he
    unfold Oper.wp execOp
    simp only [hop, hx, Sem.run_bind, hrun, Result.andThen_ok]
    exact hK _ _ (h w.heap.size (grownCap w s.size 0 e) _ (bytesRow s (grownCap w s.size 0 e)) _ (hM.new (below_drew_alloc w _) _ _ (Nat.le_refl _) (heap_alloc_new w.drew _)) (fun j b hj => bytesRow_get s (grownCap w s.size 0 e) j b hj))

/-- copy into a known row. -/
theorem cp_own {t tx e' : TypeId} {d x : Operand} {g q dl dc : Nat} {cs : Array Value} {e : TypeId} {bs : List UInt8}
    (hop : o.op = .call { callee := .builtin .copy, args := #[d, x], argTypes := #[t, tx] }) (hw : Region.wanted o (yielded ops a.tmps) = true) (hM : Mem w0 w fr l)
    (hu : P.underlying t = some (.slice e')) (hsz : (P.info? e').map (·.size) = some 1)
    (hd : a.eval d = .slice (some ⟨g, q, none⟩) dl dc) (hp : Pick l ⟨g, cs, e, (0, 0)⟩ r) (hB : Bytes w (a.eval x) bs) (hfit : bs.length ≤ dl) (hq : q + bs.length ≤ cs.size)
    (h : ∀ w', Mem w0 w' fr (⟨g, lay cs q (bs.map u8), e, (0, 0)⟩ :: r) → R (a.put o.dst (goInt bs.length)) w') : WPK P ops Q R o a w :=
  wanted hw fun K hK => by
    generalize hv : a.eval x = v at hB
    cases hB with
    | nil =>
      have hrun := run_copy_nil (P := P) w t tx o.type e' ⟨g, q, none⟩ dl dc hu (by rw [hsz]; rfl)
      unfold Oper.wp
      simp only [execOp, hop, resolve, Sem.run_bind, Sem.run_pure, Result.andThen_ok, invoke, builtin, List.map_toArray, List.map_cons, List.map_nil, hd, hv, hrun]
      refine hK _ _ (h _ ?_)
      have : lay cs q (([] : List UInt8).map u8) = cs := by
        apply Array.ext_getElem?
        intro j
        rw [lay_get (by simpa using hq)]
        rw [if_neg (by simp only [List.map_nil, List.length_nil]; omega)]
      rw [this]
      exact (hM.sub (.cons hp (.same r)))
    | at_ ad bs c _ hc =>
      have hrun := run_copy_row (P := P) w t tx o.type e' g q dl dc ad bs.length c cs e (bs.map u8) hu hsz (hM.get hp) (by simp [Nat.min_eq_left hfit])
        (fun j u hj => by
          rw [List.getElem?_map] at hj
          cases hb : bs[j]? with
          | none => simp [hb] at hj
          | some b =>
            simp only [hb, Option.map_some, Option.some.injEq] at hj
            rw [hc j b hb, hj]) (by simpa using hq) (fun u hj => by obtain ⟨b, _, rfl⟩ := List.mem_map.1 hj; rfl)
      unfold Oper.wp
      simp only [execOp, hop, resolve, Sem.run_bind, Sem.run_pure, Result.andThen_ok, invoke, builtin, List.map_toArray, List.map_cons, List.map_nil, hd, hv, hrun]
      have hM2 := hM.setRow hp (lay cs q (bs.map u8))
      rw [List.length_map]
      exact hK _ _ (h _ (by unfold lay at hM2 ⊢; rw [List.length_map] at hM2 ⊢; exact hM2))

theorem run_bound {P : Program} (w : World) (k : IntKind) (i : Int) (n y : Nat) (code : BoundsCode) (hi : i = (n : Int)) (h : n ≤ y) : (Instr.sliceBound (.int k i) y code).run P w = .ok n w := by
  subst hi
  have h1 : (0 : Int) ≤ n ∧ (n : Int) ≤ y := ⟨by omega, by omega⟩
  simp [Instr.sliceBound, asIntOf, h1]

/-- How far a part begins: an empty part at the end keeps the array's own address. -/
def skp (N m size : Nat) : Nat := if N = m then 0 else m * size

/-- Of an array a part: from l to h. -/
theorem sl_arr {t e : TypeId} {x lo hi : Operand} {g q N size : Nat} {kl kh : IntKind} {L H : Int} (m n : Nat) (hop : o.op = .slice t x (some lo) (some hi) none) (hw : Region.wanted o (yielded ops a.tmps) = true)
    (hu : P.underlying t = some (.array N e)) (hs : (P.info? e).map (·.size) = some size) (hx : a.eval x = .pointer (some ⟨g, q, none⟩)) (hlo : a.eval lo = .int kl L) (hhi : a.eval hi = .int kh H)
    (hL : L = (m : Int)) (hH : H = (n : Int)) (h1 : m ≤ n) (h2 : n ≤ N)
    (h : R (a.put o.dst (.slice (some ⟨g, q + skp N m size, none⟩) (n - m) (N - m))) w) : WPK P ops Q R o a w :=
  wanted hw fun K hK => by
    cases hq : P.info? e with
    | none => simp [hq] at hs
    | some i =>
      have hsz : i.size = size := by simpa [hq] using hs
      have hrun : (Instr.sliceAt t (.pointer (some ⟨g, q, none⟩)) (some (.int kl L)) (some (.int kh H)) none).run P w = .ok (.slice (some ⟨g, q + skp N m size, none⟩) (n - m) (N - m)) w := by
        simp [Instr.sliceAt, run_underlying hu, Instr.sureAddr, Instr.sliceBounds, run_bound w kh H n N _ hH h2, run_bound w kl L m n _ hL h1, sizeOf, typeInfo, hq, hsz]
        unfold skp
        split <;> simp [Addr.add_lit]
      unfold Oper.wp execOp
      simp only [hop, hx, hlo, hhi, Option.map_some, Option.map_none, Sem.run_bind, hrun, Result.andThen_ok]
      exact hK _ _ h

/-- .. from l on. -/
theorem sl_arr_l {t e : TypeId} {x lo : Operand} {g q N size : Nat} {kl : IntKind} {L : Int} (m : Nat) (hop : o.op = .slice t x (some lo) none none) (hw : Region.wanted o (yielded ops a.tmps) = true)
    (hu : P.underlying t = some (.array N e)) (hs : (P.info? e).map (·.size) = some size) (hx : a.eval x = .pointer (some ⟨g, q, none⟩)) (hlo : a.eval lo = .int kl L)
    (hL : L = (m : Int)) (h1 : m ≤ N)
    (h : R (a.put o.dst (.slice (some ⟨g, q + skp N m size, none⟩) (N - m) (N - m))) w) : WPK P ops Q R o a w :=
  wanted hw fun K hK => by
    cases hq : P.info? e with
    | none => simp [hq] at hs
    | some i =>
      have hsz : i.size = size := by simpa [hq] using hs
      have hrun : (Instr.sliceAt t (.pointer (some ⟨g, q, none⟩)) (some (.int kl L)) none none).run P w = .ok (.slice (some ⟨g, q + skp N m size, none⟩) (N - m) (N - m)) w := by
        simp [Instr.sliceAt, run_underlying hu, Instr.sureAddr, Instr.sliceBounds, run_bound w kl L m N _ hL h1, sizeOf, typeInfo, hq, hsz]
        unfold skp
        split <;> simp [Addr.add_lit]
      unfold Oper.wp execOp
      simp only [hop, hx, hlo, Option.map_some, Option.map_none, Sem.run_bind, hrun, Result.andThen_ok]
      exact hK _ _ h

/-- The address of a part. -/
def cutAt (base : Option Addr) (cap m size : Nat) : Option Addr := if cap = m then base else base.map fun a => a.add (m * size)

/-- Of a slice a part: from l to h, from l on, up to h. -/
theorem sl_lh {t e : TypeId} {x lo hi : Operand} {base : Option Addr} {len cap size : Nat} {kl kh : IntKind} {L H : Int} (m n : Nat) (hop : o.op = .slice t x (some lo) (some hi) none) (hw : Region.wanted o (yielded ops a.tmps) = true)
    (hu : P.underlying t = some (.slice e)) (hs : (P.info? e).map (·.size) = some size) (hx : a.eval x = .slice base len cap) (hlo : a.eval lo = .int kl L) (hhi : a.eval hi = .int kh H)
    (hL : L = (m : Int)) (hH : H = (n : Int)) (h1 : m ≤ n) (h2 : n ≤ cap)
    (h : R (a.put o.dst (.slice (cutAt base cap m size) (n - m) (cap - m))) w) : WPK P ops Q R o a w :=
  wanted hw fun K hK => by
    cases hq : P.info? e with
    | none => simp [hq] at hs
    | some i =>
      have hsz : i.size = size := by simpa [hq] using hs
      have hrun : (Instr.sliceAt t (.slice base len cap) (some (.int kl L)) (some (.int kh H)) none).run P w = .ok (.slice (cutAt base cap m size) (n - m) (cap - m)) w := by
        simp [Instr.sliceAt, Instr.slice, run_underlying hu, Instr.sliceBounds, run_bound w kh H n cap _ hH h2, run_bound w kl L m n _ hL h1, sizeOf, typeInfo, hq, hsz, cutAt]
      unfold Oper.wp execOp
      simp only [hop, hx, hlo, hhi, Option.map_some, Option.map_none, Sem.run_bind, hrun, Result.andThen_ok]
      exact hK _ _ h

theorem sl_l {t e : TypeId} {x lo : Operand} {base : Option Addr} {len cap size : Nat} {kl : IntKind} {L : Int} (m : Nat) (hop : o.op = .slice t x (some lo) none none) (hw : Region.wanted o (yielded ops a.tmps) = true)
    (hu : P.underlying t = some (.slice e)) (hs : (P.info? e).map (·.size) = some size) (hx : a.eval x = .slice base len cap) (hlo : a.eval lo = .int kl L)
    (hL : L = (m : Int)) (h1 : m ≤ len)
    (h : R (a.put o.dst (.slice (cutAt base cap m size) (len - m) (cap - m))) w) : WPK P ops Q R o a w :=
  wanted hw fun K hK => by
    cases hq : P.info? e with
    | none => simp [hq] at hs
    | some i =>
      have hsz : i.size = size := by simpa [hq] using hs
      have hrun : (Instr.sliceAt t (.slice base len cap) (some (.int kl L)) none none).run P w = .ok (.slice (cutAt base cap m size) (len - m) (cap - m)) w := by
        simp [Instr.sliceAt, Instr.slice, run_underlying hu, Instr.sliceBounds, run_bound w kl L m len _ hL h1, sizeOf, typeInfo, hq, hsz, cutAt]
      unfold Oper.wp execOp
      simp only [hop, hx, hlo, Option.map_some, Option.map_none, Sem.run_bind, hrun, Result.andThen_ok]
      exact hK _ _ h

theorem sl_h {t e : TypeId} {x hi : Operand} {base : Option Addr} {len cap : Nat} {kh : IntKind} {H : Int} (n : Nat) (hop : o.op = .slice t x none (some hi) none) (hw : Region.wanted o (yielded ops a.tmps) = true)
    (hu : P.underlying t = some (.slice e)) (hs : ((P.info? e).map (·.size)).isSome = true) (hx : a.eval x = .slice base len cap) (hhi : a.eval hi = .int kh H)
    (hH : H = (n : Int)) (h2 : n ≤ cap)
    (h : R (a.put o.dst (.slice base n cap)) w) : WPK P ops Q R o a w :=
  wanted hw fun K hK => by
    cases hq : P.info? e with
    | none => simp [hq] at hs
    | some i =>
      have hrun : (Instr.sliceAt t (.slice base len cap) none (some (.int kh H)) none).run P w = .ok (.slice base n cap) w := by
        simp [Instr.sliceAt, Instr.slice, run_underlying hu, Instr.sliceBounds, run_bound w kh H n cap _ hH h2, sizeOf, typeInfo, hq]
        intro _
        cases base <;> simp [Addr.add]
      unfold Oper.wp execOp
      simp only [hop, hx, hhi, Option.map_some, Option.map_none, Sem.run_bind, hrun, Result.andThen_ok]
      exact hK _ _ h

theorem add_add (a : Addr) (i j : Nat) : (a.add i).add j = a.add (i + j) := by
  unfold Addr.add
  by_cases hi : i = 0 <;> by_cases hj : j = 0 <;> simp [hi, hj, Nat.add_assoc]

/-- A part of bytes. -/
theorem Bytes.cut {base : Option Addr} {len cap m n : Nat} {bs : List UInt8} (h : Bytes w (.slice base len cap) bs) (h1 : m ≤ n) (h2 : n ≤ len) : Bytes w (.slice (cutAt base cap m 1) (n - m) (cap - m)) ((bs.take n).drop m) := by
  generalize hv : Value.slice base len cap = v at h
  cases h with
  | nil =>
    simp only [Value.slice.injEq] at hv
    obtain ⟨rfl, rfl, rfl⟩ := hv
    have hn : n = 0 := by omega
    have hm : m = 0 := by omega
    subst hn hm
    exact .nil
  | at_ ad bs c hlc hb =>
    simp only [Value.slice.injEq] at hv
    obtain ⟨rfl, rfl, rfl⟩ := hv
    have hl : ((bs.take n).drop m).length = n - m := by simp; omega
    have hg : ∀ (j : Nat) (b : UInt8), ((bs.take n).drop m)[j]? = some b → bs[m + j]? = some b := by
      intro j b hj
      rw [List.getElem?_drop] at hj
      have hlt : m + j < n := by
        by_cases hlt : m + j < n
        · exact hlt
        · rw [List.getElem?_take_eq_none (by omega)] at hj; cases hj
      rwa [List.getElem?_take_of_lt hlt] at hj
    by_cases hc : cap = m
    · have hn : n - m = 0 := by omega
      have hnil : (bs.take n).drop m = [] := List.eq_nil_of_length_eq_zero (by rw [hl]; exact hn)
      have hcut : cutAt (some ad) cap m 1 = some ad := by simp [cutAt, hc]
      rw [hcut, hnil, hn]
      exact .at_ ad [] _ (by simp) (fun j b hj => by simp at hj)
    · have hcut : cutAt (some ad) cap m 1 = some (ad.add m) := by simp [cutAt, hc]
      rw [hcut, ← hl]
      refine .at_ _ _ _ (by omega) (fun j b hj => ?_)
      rw [add_add]
      exact hb _ b (hg j b hj)

/-- A slice literal of one element of one cell. -/
theorem al_one {t e : TypeId} {bytes : Nat} {z v : Value} {x : Operand} (hop : o.op = .buildSlice t 1 #[(0, x)]) (hw : Region.wanted o (yielded ops a.tmps) = true) (hM : Mem w0 w fr l)
    (ht : SlTy P t e 1 bytes z) (hx : a.eval x = v) (hv : v.cells = #[v])
    (h : ∀ g w', Mem w0 w' fr (⟨g, #[v], e, (0, 0)⟩ :: l) → R (a.put o.dst (.slice (some ⟨g, 0, none⟩) 1 1)) w') : WPK P ops Q R o a w :=
  al_slice hop hw hM ht (by decide) (by simp [Instr.fill, hx, hv, Array.range_succ, Array.range_zero']) h

/-- .. of none. -/
theorem al_none {t e : TypeId} {size bytes : Nat} {z : Value} (hop : o.op = .buildSlice t 0 #[]) (hw : Region.wanted o (yielded ops a.tmps) = true) (hM : Mem w0 w fr l)
    (ht : SlTy P t e size bytes z)
    (h : ∀ g w', Mem w0 w' fr (⟨g, #[], e, (0, 0)⟩ :: l) → R (a.put o.dst (.slice (some ⟨g, 0, none⟩) 0 0)) w') : WPK P ops Q R o a w :=
  al_slice hop hw hM ht (by simp) (by simp [Instr.fill]) h

/-- One cell as what is appended. -/
theorem Mem.src1 {g c : Nat} {v : Value} {t tx e' : TypeId} {fz : Nat × Nat} (hM : Mem w0 w fr l) (hp : Pick l ⟨g, #[v], t, fz⟩ r) (hv : v.oneCell' = true) (hk : P.underlying tx = some (.slice e')) :
    Src P 1 tx (.slice (some ⟨g, 0, Option.none⟩) 1 c) 1 [v] w :=
  Src.ofSlice w hk ⟨g, 0, Option.none⟩ 1 c [v] rfl (fun j u hu => by
    rw [Addr.add_lit, hM.cell hp, Nat.zero_add]
    match j, hu with
    | 0, hu => simpa using hu) (fun u hu => by simp at hu; subst hu; exact hv)

/-- append where there is room. -/
theorem ap_fit {t tx e : TypeId} {s x : Operand} {g k cap n size bytes : Nat} {cs : Array Value} {z : Value} {news : List Value}
    (hop : o.op = .call { callee := .builtin .append, args := #[s, x], argTypes := #[t, tx] }) (hw : Region.wanted o (yielded ops a.tmps) = true) (hM : Mem w0 w fr l)
    (ht : SlTy P t e size bytes z)
    (hs : a.eval s = .slice (some ⟨g, 0, none⟩) k cap) (hp : Pick l ⟨g, cs, e, (0, 0)⟩ r) (hcs : cs.size = cap * size)
    (hsrc : Src P size tx (a.eval x) n news w) (hfit : k + n ≤ cap)
    (h : ∀ w', Mem w0 w' fr (⟨g, lay cs (k * size) news, e, (0, 0)⟩ :: r) → R (a.put o.dst (.slice (some ⟨g, 0, none⟩) (k + n) cap)) w') : WPK P ops Q R o a w :=
  wanted hw fun K hK => by
    obtain ⟨i, hi, rfl, rfl, hz⟩ := ht.info
    have hlen := hsrc.newsLen
    have hsz : k * i.size + n * i.size ≤ cap * i.size := by rw [← Nat.add_mul]; exact Nat.mul_le_mul_right _ hfit
    have hrun := run_append_fit (P := P) w t tx o.type e i ht.u hi g k cap (a.eval x) n news hsrc hfit cs e (hM.get hp) (by omega)
    unfold Oper.wp
    simp only [execOp, hop, resolve, Sem.run_bind, Sem.run_pure, Result.andThen_ok, invoke, builtin, List.map_toArray, List.map_cons, List.map_nil, hs, hrun]
    exact hK _ _ (h _ (hM.setRow hp (lay cs (k * i.size) news)))

/-! ## A region that draws its order and whose last operations alone write -/
theorem wp_region_tail {id : Nat} {l2 : List Oper} (n : Nat) (hm : P.follows .mixedOrders = true) (hB : Region.lexTailB .any l2.toArray n = true) (hM : Mem w0 w fr l)
    (h : ∀ w', Mem w0 w' fr l → wpStill P l2.toArray w' (fun a' => wpList P l2.toArray Q (l2.drop n) a' w') (l2.take n) a) : (Code.region id l2.toArray true).wp P Q a w :=
  wp_region_still_tail n hm hB (h _ (hM.step (w' := { w with drawn := w.drawn + 1 }) ⟨rfl, rfl, rfl, Nat.le_refl _, fun _ _ => rfl⟩))

/-- Such a walk, looked at from outside. -/
structure WST (P : Program) (ops : Array Oper) (w : World) (Q : Act → Prop) (o : Oper) (rest : List Oper) (a : Act) : Prop where
  of ::
  out : wpStill P ops w Q (o :: rest) a

theorem wst {Q : Act → Prop} (h : WST P ops w Q o rest a) : wpStill P ops w Q (o :: rest) a := h.out

/-- One cell is read. -/
theorem still_cell {Q : Act → Prop} {ty : TypeId} {x : Operand} {g i : Nat} {cs : Array Value} {t : TypeId} {fz : Nat × Nat} {v : Value} (hop : o.op = .load ty x) (hw : Region.wanted o (yielded ops a.tmps) = true) (hM : Mem w0 w fr l)
    (hx : a.eval x = .pointer (some ⟨g, i, none⟩)) (hp : Pick l ⟨g, cs, t, fz⟩ r) (hv : cs[i]? = some v) (ht : OneTy P ty)
    (h : wpStill P ops w Q rest (a.put o.dst v)) : WST P ops w Q o rest a :=
  ⟨wpStill_step fun K hK => by
    rw [if_pos hw]
    unfold Oper.still execOp
    simp only [hop, hx, Instr.loadAt, Instr.sureAddr, Sem.run_bind, Sem.run_pure, Result.andThen_ok, run_loadVar_one w ⟨g, i, none⟩ ty v ht ((hM.cell hp i).trans hv)]
    exact ⟨rfl, hK _ h⟩⟩

/-- A struct or an array is read whole. -/
theorem still_row {Q : Act → Prop} {ty : TypeId} {x : Operand} {g : Nat} {cs : Array Value} {t : TypeId} {fz : Nat × Nat} (hop : o.op = .load ty x) (hw : Region.wanted o (yielded ops a.tmps) = true) (hM : Mem w0 w fr l)
    (hx : a.eval x = .pointer (some ⟨g, 0, none⟩)) (hp : Pick l ⟨g, cs, t, fz⟩ r) (ht : RowTy P ty cs.size)
    (h : wpStill P ops w Q rest (a.put o.dst (.agg cs))) : WST P ops w Q o rest a :=
  ⟨wpStill_step fun K hK => by
    rw [if_pos hw]
    obtain ⟨d, hu, hd⟩ := ht.agg
    unfold Oper.still execOp
    simp only [hop, hx, Instr.loadAt, Instr.sureAddr, Sem.run_bind, Sem.run_pure, Result.andThen_ok, run_loadVar_row w g t ty cs fz d (hM.get hp) hu (by cases d <;> simp_all) ht.size]
    exact ⟨rfl, hK _ h⟩⟩

/-- Of a slice the part up to h. -/
theorem still_sl_h {Q : Act → Prop} {t e : TypeId} {x hi : Operand} {base : Option Addr} {len cap : Nat} {kh : IntKind} {H : Int} (n : Nat) (hop : o.op = .slice t x none (some hi) none) (hw : Region.wanted o (yielded ops a.tmps) = true)
    (hu : P.underlying t = some (.slice e)) (hs : ((P.info? e).map (·.size)).isSome = true) (hx : a.eval x = .slice base len cap) (hhi : a.eval hi = .int kh H)
    (hH : H = (n : Int)) (h2 : n ≤ cap)
    (h : wpStill P ops w Q rest (a.put o.dst (.slice base n cap))) : WST P ops w Q o rest a :=
  ⟨wpStill_step fun K hK => by
    rw [if_pos hw]
    cases hq : P.info? e with
    | none => simp [hq] at hs
    | some i =>
      have hrun : (Instr.sliceAt t (.slice base len cap) none (some (.int kh H)) none).run P w = .ok (.slice base n cap) w := by
        simp [Instr.sliceAt, Instr.slice, run_underlying hu, Instr.sliceBounds, run_bound w kh H n cap _ hH h2, sizeOf, typeInfo, hq]
        intro _
        cases base <;> simp [Addr.add]
      unfold Oper.still execOp
      simp only [hop, hx, hhi, Option.map_some, Option.map_none, Sem.run_bind, hrun, Result.andThen_ok]
      exact ⟨rfl, hK _ h⟩⟩

theorem run_mark {P : Program} (w : World) (g q : Nat) (cs : Array Value) (t : TypeId) (hg : w.heap[g]? = some (.cells cs t (0, 0))) : (markStringish ⟨g, q, none⟩).run P w = .ok () (w.freeze ⟨g, cs.size, none⟩ 1) := by
  have hsh : w.shape? g = some (t, cs.size) := by
    unfold World.shape?
    rw [hg]
  simp [markStringish, hsh]

theorem freeze_heap (w : World) (g : Nat) (cs : Array Value) (t : TypeId) (hg : w.heap[g]? = some (.cells cs t (0, 0))) : (w.freeze ⟨g, cs.size, none⟩ 1).heap[g]? = some (.cells cs t (cs.size, cs.size + 1)) := by
  unfold World.freeze
  rw [if_neg (by decide)]
  simp [Array.getElem?_modify, hg]

theorem only_freeze (w : World) (g n : Nat) : Only w (w.freeze ⟨g, n, none⟩ 1) g := by
  unfold World.freeze
  rw [if_neg (by decide)]
  exact ⟨rfl, rfl, rfl, by simp, fun k hk => by simp only [Array.getElem?_modify]; rw [if_neg (fun e => hk e.symm)]⟩

theorem Mem.setF {g : Nat} {cs cs' : Array Value} {t : TypeId} {fz fz' : Nat × Nat} (h : Mem w0 w fr l) (hp : Pick l ⟨g, cs, t, fz⟩ r) {w' : World} (ho : Only w w' g) (hn : w'.heap[g]? = some (.cells cs' t fz')) : Mem w0 w' fr (⟨g, cs', t, fz'⟩ :: r) := by
  have h1 := h.perm hp.perm
  have hge := h.ge hp
  refine ⟨⟨ho.os.trans h1.below.os, ho.tape.trans h1.below.tape, ho.output.trans h1.below.output, by rw [ho.size]; exact h.size, fun k hk => (ho.block k (by simp only at hge; omega)).trans (h1.below.block k hk)⟩, ?_, ?_, fun x hx => ⟨(h1.kept x hx).1, (ho.block x.1 (fun e => h1.apart x hx _ (List.mem_append.2 (.inr (List.mem_cons_self ..))) e.symm)).trans (h1.kept x hx).2⟩, ?_⟩
  · have := h1.nodup
    simpa using this
  · have hnd : ((⟨g, cs, t, fz⟩ :: (fr ++ r)).map Blk.g).Nodup := ((List.perm_middle (a := (⟨g, cs, t, fz⟩ : Blk)) (l₁ := fr) (l₂ := r)).map Blk.g).nodup_iff.1 h1.nodup
    simp only [List.map_cons, List.nodup_cons] at hnd
    intro c hc
    rcases List.mem_append.1 hc with hc | hc
    · have := h1.at_ c (List.mem_append.2 (.inl hc))
      exact ⟨this.1, (ho.block c.g (fun e => hnd.1 (List.mem_map.2 ⟨c, List.mem_append.2 (.inl hc), e⟩))).trans this.2⟩
    · rcases List.mem_cons.1 hc with rfl | hc
      · exact ⟨hge, hn⟩
      · have := h1.at_ c (List.mem_append.2 (.inr (List.mem_cons_of_mem _ hc)))
        exact ⟨this.1, (ho.block c.g (fun e => hnd.1 (List.mem_map.2 ⟨c, List.mem_append.2 (.inr hc), e⟩))).trans this.2⟩
  · intro x hx c hc
    rcases List.mem_append.1 hc with hc | hc
    · exact h1.apart x hx c (List.mem_append.2 (.inl hc))
    · rcases List.mem_cons.1 hc with rfl | hc
      · exact h1.apart x hx ⟨g, cs, t, fz⟩ (List.mem_append.2 (.inr (List.mem_cons_self ..)))
      · exact h1.apart x hx c (List.mem_append.2 (.inr (List.mem_cons_of_mem _ hc)))

/-- Bytes of a literal. -/
theorem cv_same {t e : TypeId} {x : Operand} {g q n c : Nat} {cs : Array Value} {te : TypeId} (hop : o.op = .convert t t x) (hw : Region.wanted o (yielded ops a.tmps) = true) (hM : Mem w0 w fr l)
    (hu : P.underlying t = some (.slice e)) (he : P.underlying e = some (.int .u8)) (hx : a.eval x = .slice (some ⟨g, q, none⟩) n c) (hp : Pick l ⟨g, cs, te, (0, 0)⟩ r)
    (h : ∀ w', Mem w0 w' fr (⟨g, cs, te, (cs.size, cs.size + 1)⟩ :: r) → R (a.put o.dst (.slice (some ⟨g, q, none⟩) n c)) w') : WPK P ops Q R o a w :=
  wanted hw fun K hK => by
    have hrun : (convert t t (.slice (some ⟨g, q, none⟩) n c)).run P w = .ok (.slice (some ⟨g, q, none⟩) n c) (w.freeze ⟨g, cs.size, none⟩ 1) := by
      simp [convert, run_underlying hu, run_underlying he, run_mark w g q cs te (hM.get hp)]
    unfold Oper.wp execOp
    simp only [hop, hx, Sem.run_bind, hrun, Result.andThen_ok]
    exact hK _ _ (h _ (hM.setF hp (only_freeze w g cs.size) (freeze_heap w g cs te (hM.get hp))))

/-- A slice literal of two elements, of three. -/
theorem al_two {t e : TypeId} {bytes : Nat} {z v0 v1 : Value} {x0 x1 : Operand} (hop : o.op = .buildSlice t 2 #[(0, x0), (1, x1)]) (hw : Region.wanted o (yielded ops a.tmps) = true) (hM : Mem w0 w fr l)
    (ht : SlTy P t e 1 bytes z) (h0 : a.eval x0 = v0) (h1 : a.eval x1 = v1) (hv0 : v0.cells = #[v0]) (hv1 : v1.cells = #[v1])
    (h : ∀ g w', Mem w0 w' fr (⟨g, #[v0, v1], e, (0, 0)⟩ :: l) → R (a.put o.dst (.slice (some ⟨g, 0, none⟩) 2 2)) w') : WPK P ops Q R o a w :=
  al_slice hop hw hM ht (by decide) (by simp [Instr.fill, h0, h1, hv0, hv1, Array.range_succ, Array.range_zero']) h
theorem al_three {t e : TypeId} {bytes : Nat} {z v0 v1 v2 : Value} {x0 x1 x2 : Operand} (hop : o.op = .buildSlice t 3 #[(0, x0), (1, x1), (2, x2)]) (hw : Region.wanted o (yielded ops a.tmps) = true) (hM : Mem w0 w fr l)
    (ht : SlTy P t e 1 bytes z) (h0 : a.eval x0 = v0) (h1 : a.eval x1 = v1) (h2 : a.eval x2 = v2) (hv0 : v0.cells = #[v0]) (hv1 : v1.cells = #[v1]) (hv2 : v2.cells = #[v2])
    (h : ∀ g w', Mem w0 w' fr (⟨g, #[v0, v1, v2], e, (0, 0)⟩ :: l) → R (a.put o.dst (.slice (some ⟨g, 0, none⟩) 3 3)) w') : WPK P ops Q R o a w :=
  al_slice hop hw hM ht (by decide) (by simp [Instr.fill, h0, h1, h2, hv0, hv1, hv2, Array.range_succ, Array.range_zero']) h
end
end Go.Proofs.YtfpfdnckibaldaaDoor.M
