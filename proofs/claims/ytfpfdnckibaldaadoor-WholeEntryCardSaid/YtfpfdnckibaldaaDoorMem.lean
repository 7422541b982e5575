/- A memory of known blocks: which blocks a walk knows and what stands in each; the rules by which single operations change it. No condition. -/
import Derived.WalkKit
import Derived.Below
import Derived.Laws.Rows
import Derived.Laws.CopyRow
import Derived.Deep.MidRow
import Derived.Deep.QuietTactic
import Derived.BigQuiet
namespace Go.Proofs.YtfpfdnckibaldaaDoor.M
open Go.RowKit

/-- A block of plain cells: its number, its cells, its elements' type, what of it is frozen. -/
structure Blk where
  g : Nat
  cs : Array Value
  t : TypeId
  fz : Nat × Nat

/-- What a walk starts from: a world, and objects made since that nothing turns. -/
structure Base where
  w : World
  ms : List (Nat × Obj)

instance : Coe World Base := ⟨fun w => ⟨w, []⟩⟩

/-- Below w0 all is as it was in w0; each listed block is new since, stands as listed, and none is listed twice. The list fr is carried along, l is looked at; w0's own objects stand too. -/
structure Mem (w0 : Base) (w : World) (fr l : List Blk) : Prop where
  below : Below w0.w.heap.size w0.w w
  nodup : ((fr ++ l).map Blk.g).Nodup
  at_ : ∀ b ∈ fr ++ l, w0.w.heap.size ≤ b.g ∧ w.heap[b.g]? = some (.cells b.cs b.t b.fz)
  kept : ∀ x ∈ w0.ms, w0.w.heap.size ≤ x.1 ∧ w.heap[x.1]? = some x.2
  apart : ∀ x ∈ w0.ms, ∀ b ∈ fr ++ l, b.g ≠ x.1

/-- Block b taken out of a list leaves r. -/
inductive Pick : List Blk → Blk → List Blk → Prop
  | head (b : Blk) (l : List Blk) : Pick (b :: l) b l
  | tail {c : Blk} {l : List Blk} {b : Blk} {r : List Blk} : Pick l b r → Pick (c :: l) b (c :: r)

/-- All blocks of l' are taken out of l. -/
inductive Sub : List Blk → List Blk → Prop
  | nil (l : List Blk) : Sub l []
  | cons {l : List Blk} {b : Blk} {r l' : List Blk} : Pick l b r → Sub r l' → Sub l (b :: l')
  | same (l : List Blk) : Sub l l

section
variable {w0 : Base} {w w' : World} {fr l r : List Blk} {b : Blk}

theorem Pick.perm (h : Pick l b r) : l.Perm (b :: r) := by
  induction h with
  | head b l => exact List.Perm.refl _
  | tail _ ih => exact (ih.cons _).trans (List.Perm.swap _ _ _)

theorem Pick.mem (h : Pick l b r) : b ∈ l := h.perm.mem_iff.2 (List.mem_cons_self ..)

theorem Mem.perm {l' : List Blk} (h : Mem w0 w fr l) (hp : l.Perm l') : Mem w0 w fr l' :=
  ⟨h.below, ((hp.append_left fr).map Blk.g).nodup_iff.1 h.nodup, fun c hc => h.at_ c ((hp.append_left fr).mem_iff.2 hc), h.kept, fun x hx c hc => h.apart x hx c ((hp.append_left fr).mem_iff.2 hc)⟩

theorem Mem.swap (h : Mem w0 w fr l) : Mem w0 w l fr :=
  ⟨h.below, ((List.perm_append_comm (l₁ := fr) (l₂ := l)).map Blk.g).nodup_iff.1 h.nodup, fun c hc => h.at_ c (List.perm_append_comm.mem_iff.2 hc), h.kept, fun x hx c hc => h.apart x hx c (List.perm_append_comm.mem_iff.2 hc)⟩

theorem Mem.reperm {fr' l' : List Blk} (h : Mem w0 w fr l) (hp : (fr ++ l).Perm (fr' ++ l')) : Mem w0 w fr' l' :=
  ⟨h.below, (hp.map Blk.g).nodup_iff.1 h.nodup, fun c hc => h.at_ c (hp.mem_iff.2 hc), h.kept, fun x hx c hc => h.apart x hx c (hp.mem_iff.2 hc)⟩

/-- A block goes over to the other list. -/
theorem Mem.over {A : List Blk} (h : Mem w0 w l (b :: A)) : Mem w0 w A (b :: l) :=
  h.reperm (by
    have h1 : (l ++ b :: A).Perm (b :: (l ++ A)) := List.perm_middle
    have h2 : (A ++ b :: l).Perm (b :: (A ++ l)) := List.perm_middle
    exact h1.trans ((List.perm_append_comm.cons b).trans h2.symm))

theorem Mem.tail (h : Mem w0 w fr (b :: l)) : Mem w0 w fr l := by
  have hs : ∀ c, c ∈ fr ++ l → c ∈ fr ++ b :: l := by
    intro c hc
    rcases List.mem_append.1 hc with hc | hc
    · exact List.mem_append.2 (.inl hc)
    · exact List.mem_append.2 (.inr (List.mem_cons_of_mem _ hc))
  refine ⟨h.below, ?_, fun c hc => h.at_ c (hs c hc), h.kept, fun x hx c hc => h.apart x hx c (hs c hc)⟩
  have h1 : ((fr ++ l).map Blk.g).Sublist ((fr ++ b :: l).map Blk.g) := ((List.sublist_cons_self b l).append_left fr).map _
  exact h1.nodup h.nodup

theorem Mem.none (h : Mem w0 w fr l) : Mem w0 w fr [] := by
  induction l with
  | nil => exact h
  | cons b l ih => exact ih h.tail

theorem Mem.sub {l' : List Blk} (h : Mem w0 w fr l) (hs : Sub l l') : Mem w0 w fr l' := by
  induction hs generalizing fr with
  | nil l => exact h.none
  | same l => exact h
  | @cons l b r l' hp _ ih =>
    have h1 : Mem w0 w fr (b :: r) := h.perm hp.perm
    have h2 : Mem w0 w (fr ++ [b]) r := ⟨h1.below, by simpa using h1.nodup, fun c hc => h1.at_ c (by simpa using hc), h1.kept, fun x hx c hc => h1.apart x hx c (by simpa using hc)⟩
    have h3 := ih h2
    exact ⟨h3.below, by simpa using h3.nodup, fun c hc => h3.at_ c (by simpa using hc), h3.kept, fun x hx c hc => h3.apart x hx c (by simpa using hc)⟩

theorem Mem.get (h : Mem w0 w fr l) (hp : Pick l b r) : w.heap[b.g]? = some (.cells b.cs b.t b.fz) := (h.at_ b (List.mem_append.2 (.inr hp.mem))).2

theorem Mem.ge (h : Mem w0 w fr l) (hp : Pick l b r) : w0.w.heap.size ≤ b.g := (h.at_ b (List.mem_append.2 (.inr hp.mem))).1

theorem Mem.lt (h : Mem w0 w fr l) {c : Blk} (hc : c ∈ fr ++ l) : c.g < w.heap.size := by
  have := (h.at_ c hc).2
  rcases Nat.lt_or_ge c.g w.heap.size with hlt | hge
  · exact hlt
  · rw [Array.getElem?_eq_none hge] at this; cases this

theorem Mem.start (w : World) : Mem w w [] [] := ⟨Below.refl _ _, by simp, fun _ h => by simp at h, fun _ h => by simp at h, fun _ h => by simp at h⟩

theorem Mem.size (h : Mem w0 w fr l) : w0.w.heap.size ≤ w.heap.size := h.below.size

theorem Mem.ltk (h : Mem w0 w fr l) {x : Nat × Obj} (hx : x ∈ w0.ms) : x.1 < w.heap.size := by
  have := (h.kept x hx).2
  rcases Nat.lt_or_ge x.1 w.heap.size with hlt | hge
  · exact hlt
  · rw [Array.getElem?_eq_none hge] at this; cases this


/-- Whatever only makes blocks. -/
theorem Mem.step (h : Mem w0 w fr l) (hb : Below w.heap.size w w') : Mem w0 w' fr l :=
  ⟨h.below.trans (hb.mono h.size), h.nodup, fun c hc => ⟨(h.at_ c hc).1, (hb.block _ (h.lt hc)).trans (h.at_ c hc).2⟩, fun x hx => ⟨(h.kept x hx).1, (hb.block _ (h.ltk hx)).trans (h.kept x hx).2⟩, h.apart⟩

/-- A new block. -/
theorem Mem.new (h : Mem w0 w fr l) (hb : Below w.heap.size w w') (cs : Array Value) (t : TypeId) {g : Nat} {fz : Nat × Nat} (hg : w.heap.size ≤ g) (hn : w'.heap[g]? = some (.cells cs t fz)) : Mem w0 w' fr (⟨g, cs, t, fz⟩ :: l) := by
  have h1 := h.step hb
  refine ⟨h1.below, ?_, ?_, h1.kept, ?_⟩
  · have hp : (fr ++ ⟨g, cs, t, fz⟩ :: l).Perm (⟨g, cs, t, fz⟩ :: (fr ++ l)) := List.perm_middle
    rw [(hp.map Blk.g).nodup_iff]
    simp only [List.map_cons, List.nodup_cons]
    refine ⟨?_, h.nodup⟩
    intro hm
    obtain ⟨c, hc, he⟩ := List.mem_map.1 hm
    have := h.lt hc
    omega
  · intro c hc
    rcases List.mem_append.1 hc with hc | hc
    · exact h1.at_ c (List.mem_append.2 (.inl hc))
    · rcases List.mem_cons.1 hc with rfl | hc
      · exact ⟨by have := h.size; simp only; omega, hn⟩
      · exact h1.at_ c (List.mem_append.2 (.inr hc))
  · intro x hx c hc
    rcases List.mem_append.1 hc with hc | hc
    · exact h1.apart x hx c (List.mem_append.2 (.inl hc))
    · rcases List.mem_cons.1 hc with rfl | hc
      · have := h.ltk hx
        simp only
        omega
      · exact h1.apart x hx c (List.mem_append.2 (.inr hc))

theorem below_alloc_ (w : World) (o : Obj) : Below w.heap.size w (w.alloc o) := (Below.refl _ _).alloc (Nat.le_refl _) o

theorem Mem.alloc (h : Mem w0 w fr l) (cs : Array Value) (t : TypeId) : Mem w0 (w.alloc (.cells cs t)) fr (⟨w.heap.size, cs, t, (0, 0)⟩ :: l) :=
  h.new (below_alloc_ w _) cs t (Nat.le_refl _) (heap_alloc_new w _)

/-- Only block g has turned. -/
structure Only (w w' : World) (g : Nat) : Prop where
  os : w'.os = w.os
  tape : w'.tape = w.tape
  output : w'.output = w.output
  size : w'.heap.size = w.heap.size
  block : ∀ k, k ≠ g → w'.heap[k]? = w.heap[k]?

theorem Mem.set {g : Nat} {cs cs' : Array Value} {t : TypeId} (h : Mem w0 w fr l) (hp : Pick l ⟨g, cs, t, (0, 0)⟩ r) (ho : Only w w' g) (hn : w'.heap[g]? = some (.cells cs' t (0, 0))) : Mem w0 w' fr (⟨g, cs', t, (0, 0)⟩ :: r) := by
  have h1 := h.perm hp.perm
  have hge := h.ge hp
  refine ⟨⟨ho.os.trans h1.below.os, ho.tape.trans h1.below.tape, ho.output.trans h1.below.output, by rw [ho.size]; exact h.size, fun k hk => (ho.block k (by simp only at hge; omega)).trans (h1.below.block k hk)⟩, ?_, ?_, fun x hx => ⟨(h1.kept x hx).1, (ho.block x.1 (fun e => h1.apart x hx _ (List.mem_append.2 (.inr (List.mem_cons_self ..))) e.symm)).trans (h1.kept x hx).2⟩, ?_⟩
  · have := h1.nodup
    simpa using this
  · have hnd : ((⟨g, cs, t, (0, 0)⟩ :: (fr ++ r)).map Blk.g).Nodup := ((List.perm_middle (a := (⟨g, cs, t, (0, 0)⟩ : Blk)) (l₁ := fr) (l₂ := r)).map Blk.g).nodup_iff.1 h1.nodup
    simp only [List.map_cons, List.nodup_cons] at hnd
    intro c hc
    rcases List.mem_append.1 hc with hc | hc
    · have := h1.at_ c (List.mem_append.2 (.inl hc))
      exact ⟨this.1, (ho.block c.g (fun e => hnd.1 (List.mem_map.2 ⟨c, List.mem_append.2 (.inl hc), e⟩))).trans this.2⟩
    · rcases List.mem_cons.1 hc with rfl | hc
      · exact ⟨hge, hn⟩
      · have := h1.at_ c (List.mem_append.2 (.inr (List.mem_cons_of_mem _ hc)))
        exact ⟨this.1, (ho.block c.g (fun e => hnd.1 (List.mem_map.2 ⟨c, List.mem_append.2 (.inr hc), e⟩))).trans this.2⟩
  · intro x hx c hc
    rcases List.mem_append.1 hc with hc | hc
    · exact h1.apart x hx c (List.mem_append.2 (.inl hc))
    · rcases List.mem_cons.1 hc with rfl | hc
      · exact h1.apart x hx ⟨g, cs, t, (0, 0)⟩ (List.mem_append.2 (.inr (List.mem_cons_self ..)))
      · exact h1.apart x hx c (List.mem_append.2 (.inr (List.mem_cons_of_mem _ hc)))

theorem only_setCell (w : World) (g i : Nat) (v : Value) : Only w (w.setCell ⟨g, i, Option.none⟩ v) g :=
  ⟨rfl, rfl, rfl, by simp [World.setCell], fun k hk => Below.heap_setCell _ _ _ _ hk⟩

theorem only_setRow (w : World) (g : Nat) (cs : Array Value) : Only w (w.setRow g cs) g :=
  ⟨rfl, rfl, rfl, by simp, fun k hk => by simp only [World.setRow, Array.getElem?_modify]; rw [if_neg (fun e => hk e.symm)]⟩

theorem Mem.setCell {g i : Nat} {cs : Array Value} {t : TypeId} (h : Mem w0 w fr l) (hp : Pick l ⟨g, cs, t, (0, 0)⟩ r) (v : Value) : Mem w0 (w.setCell ⟨g, i, Option.none⟩ v) fr (⟨g, cs.setIfInBounds i v, t, (0, 0)⟩ :: r) :=
  h.set hp (only_setCell w g i v) (heap_setCell_same w g i cs t v (h.get hp))

theorem Mem.setRow {g : Nat} {cs : Array Value} {t : TypeId} (h : Mem w0 w fr l) (hp : Pick l ⟨g, cs, t, (0, 0)⟩ r) (cs' : Array Value) : Mem w0 (w.setRow g cs') fr (⟨g, cs', t, (0, 0)⟩ :: r) :=
  h.set hp (only_setRow w g cs') (setRow_heap w g cs cs' t (0, 0) (h.get hp))

theorem Mem.cell {g : Nat} {cs : Array Value} {t : TypeId} {fz : Nat × Nat} (h : Mem w0 w fr l) (hp : Pick l ⟨g, cs, t, fz⟩ r) (i : Nat) : w.cell? ⟨g, i, Option.none⟩ = cs[i]? := cell_of_row w g i cs t fz (h.get hp)

theorem Mem.frozen {g : Nat} {cs : Array Value} {t : TypeId} (h : Mem w0 w fr l) (hp : Pick l ⟨g, cs, t, (0, 0)⟩ r) (i : Nat) : w.frozen? ⟨g, i, Option.none⟩ = false := frozen_of_row w g i cs t (h.get hp)

/-- What stood in w0. -/
theorem Mem.old (h : Mem w0 w fr l) {k : Nat} (hk : k < w0.w.heap.size) : w.heap[k]? = w0.w.heap[k]? := h.below.block k hk
theorem Mem.oldCell (h : Mem w0 w fr l) {a : Addr} (hk : a.block < w0.w.heap.size) : w.cell? a = w0.w.cell? a := h.below.cell hk

/-! ### A base's own objects -/
/-- A known block is laid away. -/
theorem Mem.park {g : Nat} {cs : Array Value} {t : TypeId} {fz : Nat × Nat} (h : Mem w0 w fr (⟨g, cs, t, fz⟩ :: l)) : Mem ⟨w0.w, (g, .cells cs t fz) :: w0.ms⟩ w fr l := by
  have ht := h.tail
  have hm := List.mem_append.2 (.inr (List.mem_cons_self ..) : (⟨g, cs, t, fz⟩ : Blk) ∈ fr ∨ (⟨g, cs, t, fz⟩ : Blk) ∈ ⟨g, cs, t, fz⟩ :: l)
  refine ⟨ht.below, ht.nodup, ht.at_, fun x hx => ?_, fun x hx c hc => ?_⟩
  · rcases List.mem_cons.1 hx with rfl | hx
    · exact h.at_ _ hm
    · exact ht.kept x hx
  · rcases List.mem_cons.1 hx with rfl | hx
    · have hnd := ((List.perm_middle (a := (⟨g, cs, t, fz⟩ : Blk)) (l₁ := fr) (l₂ := l)).map Blk.g).nodup_iff.1 h.nodup
      simp only [List.map_cons, List.nodup_cons] at hnd
      exact fun e => hnd.1 (List.mem_map.2 ⟨c, hc, e⟩)
    · exact ht.apart x hx c hc

/-- A new object that is no row of cells. -/
theorem Mem.newObj (h : Mem w0 w fr l) (hb : Below w.heap.size w w') {g : Nat} {o : Obj} (hg : w.heap.size ≤ g) (hn : w'.heap[g]? = some o) : Mem ⟨w0.w, (g, o) :: w0.ms⟩ w' fr l := by
  have h1 := h.step hb
  refine ⟨h1.below, h1.nodup, h1.at_, fun x hx => ?_, fun x hx c hc => ?_⟩
  · rcases List.mem_cons.1 hx with rfl | hx
    · exact ⟨by have := h.size; simp only; omega, hn⟩
    · exact h1.kept x hx
  · rcases List.mem_cons.1 hx with rfl | hx
    · have := h.lt hc
      simp only
      omega
    · exact h1.apart x hx c hc

/-- Some objects are forgotten. -/
theorem Mem.fewer {ms : List (Nat × Obj)} (h : Mem w0 w fr l) (hs : ∀ x ∈ ms, x ∈ w0.ms) : Mem ⟨w0.w, ms⟩ w fr l :=
  ⟨h.below, h.nodup, h.at_, fun x hx => h.kept x (hs x hx), fun x hx => h.apart x (hs x hx)⟩

theorem Mem.kget (h : Mem w0 w fr l) {g : Nat} {o : Obj} (hx : (g, o) ∈ w0.ms) : w.heap[g]? = some o := (h.kept _ hx).2
end

/-! ## The operations -/
/-- ty is a struct or an array of n cells. -/
structure RowTy (P : Program) (ty : TypeId) (n : Nat) : Prop where
  mk' ::
  agg : ∃ d, P.underlying ty = some d ∧ (match d with | .struct _ | .array _ _ => true | _ => false) = true
  size : (P.info? ty).map (·.size) = some n

/-- ty is a type of one cell. -/
structure OneTy (P : Program) (ty : TypeId) : Prop where
  mk' ::
  one : ∃ d, P.underlying ty = some d ∧ (match d with | .struct _ | .array _ _ => true | _ => false) = false
  size : (P.info? ty).map (·.size) = some 1

def rowTyB (P : Program) (ty : TypeId) (n : Nat) : Bool := (match P.underlying ty with | some (.struct _) | some (.array _ _) => true | _ => false) && ((P.info? ty).map (·.size) == some n)
def oneTyB (P : Program) (ty : TypeId) : Bool := (match P.underlying ty with | some (.struct _) | some (.array _ _) | none => false | _ => true) && ((P.info? ty).map (·.size) == some 1)

theorem RowTy.of {P : Program} {ty : TypeId} {n : Nat} (h : rowTyB P ty n = true) : RowTy P ty n := by
  unfold rowTyB at h
  simp only [Bool.and_eq_true] at h
  refine ⟨?_, by simpa using h.2⟩
  cases hu : P.underlying ty with
  | none => simp [hu] at h
  | some d => exact ⟨d, rfl, by cases d <;> simp_all⟩

theorem OneTy.of {P : Program} {ty : TypeId} (h : oneTyB P ty = true) : OneTy P ty := by
  unfold oneTyB at h
  simp only [Bool.and_eq_true] at h
  refine ⟨?_, by simpa using h.2⟩
  cases hu : P.underlying ty with
  | none => simp [hu] at h
  | some d => exact ⟨d, rfl, by cases d <;> simp_all⟩

section
variable {P : Program} {ops : Array Oper} {Q : Exit → Act → World → Prop} {a : Act} {w : World} {w0 : Base} {rest : List Oper} {o : Oper} {fr l r : List Blk} {R : Act → World → Prop}

theorem want_none (h : o.guard = none) : Region.wanted o (yielded ops a.tmps) = true := by unfold Region.wanted; rw [h]

theorem want_some {j t : Nat} {b : Bool} {oj : Oper} (h : o.guard = some (j, b)) (hj : ops[j]? = some oj) (hd : oj.dst = some t) (hv : a.tmps[t]? = some (.bool b)) : Region.wanted o (yielded ops a.tmps) = true := by
  unfold Region.wanted
  rw [h]
  simp [yielded, hj, hd, hv]

theorem want (hw : Region.wanted o (yielded ops a.tmps) = true)
    (h : ∀ K : Act → World → Prop, (∀ a w, wpList P ops Q rest a w → K a w) → o.wp P a w K Q) : wpList P ops Q (o :: rest) a w :=
  wpList_step fun K hK => by rw [if_pos hw]; exact h K hK

/-- One operation, and what follows it, looked at from outside: its run is not laid open by a try of a rule. -/
structure WPK (P : Program) (ops : Array Oper) (Q : Exit → Act → World → Prop) (R : Act → World → Prop) (o : Oper) (a : Act) (w : World) : Prop where
  of ::
  hw : Region.wanted o (yielded ops a.tmps) = true
  step : ∀ K : Act → World → Prop, (∀ a w, R a w → K a w) → o.wp P a w K Q

theorem wpl (h : WPK P ops Q (wpList P ops Q rest) o a w) : wpList P ops Q (o :: rest) a w := want h.hw h.step

/-- .. as a step of a region that draws its order. -/
theorem any_step {K : Act → World → Prop} {E : Prop} (hK : ∀ a w, R a w → K a w) (h : WPK P ops Q R o a w) : if Region.wanted o (yielded ops a.tmps) = true then Oper.wp P o a w K Q else E := by
  rw [if_pos h.hw]
  exact h.step K hK

theorem wanted (hw : Region.wanted o (yielded ops a.tmps) = true)
    (h : ∀ K : Act → World → Prop, (∀ a w, R a w → K a w) → o.wp P a w K Q) : WPK P ops Q R o a w := ⟨hw, h⟩

/-- A struct or an array is read whole. -/
theorem ld_row {ty : TypeId} {x : Operand} {g : Nat} {cs : Array Value} {t : TypeId} {fz : Nat × Nat} (hop : o.op = .load ty x) (hw : Region.wanted o (yielded ops a.tmps) = true) (hM : Mem w0 w fr l)
    (hx : a.eval x = .pointer (some ⟨g, 0, none⟩)) (hp : Pick l ⟨g, cs, t, fz⟩ r) (ht : RowTy P ty cs.size)
    (h : R (a.put o.dst (.agg cs)) w) : WPK P ops Q R o a w :=
  wanted hw fun K hK => by
    obtain ⟨d, hu, hd⟩ := ht.agg
    exact wp_load_row ty x hop g hx t cs fz d (hM.get hp) hu (by cases d <;> simp_all) ht.size (hK _ _ h)

theorem run_loadVar_one (w : World) (ad : Addr) (ty : TypeId) (v : Value) (ht : OneTy P ty) (hc : w.cell? ad = some v) : (loadVar ty ad).run P w = .ok v w := by
  obtain ⟨d, hu, hd⟩ := ht.one
  have hagg : (isAgg ty).run P w = .ok false w := by
    unfold isAgg
    rw [Sem.run_bind, run_underlying hu w]
    cases d <;> simp_all
  simp [loadVar, Sem.run_bind, hagg, load, Sem.run, hc]

/-- One cell is read. -/
theorem ld_cell {ty : TypeId} {x : Operand} {ad : Addr} {v : Value} (hop : o.op = .load ty x) (hw : Region.wanted o (yielded ops a.tmps) = true)
    (hx : a.eval x = .pointer (some ad)) (hc : w.cell? ad = some v) (ht : OneTy P ty)
    (h : R (a.put o.dst v) w) : WPK P ops Q R o a w :=
  wanted hw fun K hK => by
    unfold Oper.wp execOp
    simp only [hop, hx, Instr.loadAt, Instr.sureAddr, Sem.run_bind, Sem.run_pure, Result.andThen_ok, run_loadVar_one w ad ty v ht hc]
    exact hK _ _ h

/-- One cell of a known block is read. -/
theorem ld_one {ty : TypeId} {x : Operand} {g i : Nat} {cs : Array Value} {t : TypeId} {fz : Nat × Nat} {v : Value} (hop : o.op = .load ty x) (hw : Region.wanted o (yielded ops a.tmps) = true) (hM : Mem w0 w fr l)
    (hx : a.eval x = .pointer (some ⟨g, i, none⟩)) (hp : Pick l ⟨g, cs, t, fz⟩ r) (hv : cs[i]? = some v) (ht : OneTy P ty)
    (h : R (a.put o.dst v) w) : WPK P ops Q R o a w :=
  ld_cell hop hw hx ((hM.cell hp i).trans hv) ht h

/-- A struct or an array in memory that came in is read whole. -/
theorem ld_old {ty : TypeId} {x : Operand} {b off : Nat} (cs : List Value) (hop : o.op = .load ty x) (hw : Region.wanted o (yielded ops a.tmps) = true) (hM : Mem w0 w fr l)
    (hx : a.eval x = .pointer (some ⟨b, off, none⟩)) (hb : b < w0.w.heap.size) (hc : w0.w.rangeAt b off cs) (ht : RowTy P ty cs.length)
    (h : R (a.put o.dst (.agg cs.toArray)) w) : WPK P ops Q R o a w :=
  wanted hw fun K hK => by
    obtain ⟨d, hu, hd⟩ := ht.agg
    have hc' : w.rangeAt b off cs := fun j v hv => (hM.oldCell (a := ⟨b, off + j, none⟩) hb).trans (hc j v hv)
    exact wp_load_mid ty x hop b off hx cs d hc' hu (by cases d <;> simp_all) ht.size (hK _ _ h)

theorem run_storeVar_one (w : World) (ad : Addr) (ty : TypeId) (v u : Value) (ht : OneTy P ty) (hv : v.oneCell' = true) (hc : w.cell? ad = some u) (hf : w.frozen? ad = false) : (storeVar ty ad v).run P w = .ok () (w.setCell ad v) := by
  have hcs : v.cells = #[v] := by cases v <;> simp_all [Value.cells, Value.oneCell']
  have hs := ht.size
  cases hq : P.info? ty with
  | none => simp [hq] at hs
  | some i =>
    have h1 : i.size = 1 := by simpa [hq] using hs
    have hst : (store (ad.add 0) v).run P w = .ok () (w.setCell ad v) := by
      have e0 : ad.add 0 = ad := by simp [Addr.add]
      rw [e0, run_store P w ad v _ hv, hc]
      simp [hf]
    simp [storeVar, sizeOf, typeInfo, hq, hcs, h1, storeCells, Sem.run_bind, hst]

/-- One cell of a known block is written. -/
theorem st_cell {ty : TypeId} {x y : Operand} {g i : Nat} {cs : Array Value} {t : TypeId} {v : Value} (hop : o.op = .store ty x y) (hw : Region.wanted o (yielded ops a.tmps) = true) (hM : Mem w0 w fr l)
    (hx : a.eval x = .pointer (some ⟨g, i, none⟩)) (hy : a.eval y = v) (hp : Pick l ⟨g, cs, t, (0, 0)⟩ r) (hi : i < cs.size) (hv : v.oneCell' = true) (ht : OneTy P ty)
    (h : ∀ w', Mem w0 w' fr (⟨g, cs.setIfInBounds i v, t, (0, 0)⟩ :: r) → R (a.put o.dst undef) w') : WPK P ops Q R o a w :=
  wanted hw fun K hK => by
    unfold Oper.wp execOp
    have hc : w.cell? ⟨g, i, none⟩ = some cs[i] := by rw [hM.cell hp i]; simp [hi]
    simp only [hop, hx, hy, Instr.storeAt, Instr.sureAddr, Sem.run_bind, Sem.run_pure, Result.andThen_ok, run_storeVar_one w ⟨g, i, none⟩ ty v _ ht hv hc (hM.frozen hp i)]
    exact hK _ _ (h _ (hM.setCell hp v))

/-- Each value is one cell. -/
def allOne : List Value → Bool
  | [] => true
  | v :: r => v.oneCell' && allOne r

theorem allOne_iff {l : List Value} : allOne l = true ↔ ∀ v ∈ l, v.oneCell' = true := by
  induction l with
  | nil => simp [allOne]
  | cons v r ih => simp [allOne, ih]

theorem all_of_allOne {cs : Array Value} (h : allOne cs.toList = true) : cs.all (·.oneCell') = true :=
  Array.all_eq_true_iff_forall_mem.2 (fun v hv => allOne_iff.1 h v (by simpa using hv))

/-- A struct or an array is written whole. -/
theorem st_row {ty : TypeId} {x y : Operand} {g : Nat} {cs cells : Array Value} {t : TypeId} (hop : o.op = .store ty x y) (hw : Region.wanted o (yielded ops a.tmps) = true) (hM : Mem w0 w fr l)
    (hx : a.eval x = .pointer (some ⟨g, 0, none⟩)) (hy : a.eval y = .agg cells) (hp : Pick l ⟨g, cs, t, (0, 0)⟩ r) (hs : cs.size = cells.size) (h1 : allOne cells.toList = true) (ht : RowTy P ty cells.size)
    (h : ∀ w', Mem w0 w' fr (⟨g, cells, t, (0, 0)⟩ :: r) → R (a.put o.dst undef) w') : WPK P ops Q R o a w :=
  wanted hw fun _ hK => wp_store_row ty x y hop g cells hx hy t cs (hM.get hp) ht.size hs (all_of_allOne h1) (hK _ _ (h _ (hM.setRow hp cells)))

/-- The zero value of a type, as cells. -/
def zeroIs (P : Program) (ty : TypeId) (v : Value) : Prop := (P.info? ty).map (·.zero) = some (some v)

theorem run_zeroValue (w : World) {ty : TypeId} {v : Value} (hz : zeroIs P ty v) : (zeroValue ty).run P w = .ok v w := by
  unfold zeroIs at hz
  cases hq : P.info? ty with
  | none => simp [hq] at hz
  | some i =>
    have h1 : i.zero = some v := by simpa [hq] using hz
    simp [zeroValue, typeInfo, hq, h1]

/-- A new variable. -/
theorem al_zero {ty : TypeId} {v : Value} (hop : o.op = .alloc ty) (hw : Region.wanted o (yielded ops a.tmps) = true) (hM : Mem w0 w fr l) (hz : zeroIs P ty v)
    (h : ∀ g w', Mem w0 w' fr (⟨g, v.cells, ty, (0, 0)⟩ :: l) → R (a.put o.dst (.pointer (some ⟨g, 0, none⟩))) w') : WPK P ops Q R o a w :=
  wanted hw fun K hK => by
    unfold Oper.wp execOp
    simp only [hop, Instr.alloc, Sem.run_bind, run_zeroValue w hz, Result.andThen_ok, newVar, newRow, newObj, Sem.run, Sem.run_pure]
    exact hK _ _ (h _ _ (hM.alloc v.cells ty))

/-- A new variable that holds a value. -/
theorem al_box {ty : TypeId} {x : Operand} {v : Value} (hop : o.op = .box ty x) (hw : Region.wanted o (yielded ops a.tmps) = true) (hM : Mem w0 w fr l) (hx : a.eval x = v)
    (h : ∀ g w', Mem w0 w' fr (⟨g, v.cells, ty, (0, 0)⟩ :: l) → R (a.put o.dst (.pointer (some ⟨g, 0, none⟩))) w') : WPK P ops Q R o a w :=
  wanted hw fun K hK => by
    unfold Oper.wp execOp
    simp only [hop, hx, Instr.box, Sem.run_bind, Result.andThen_ok, newVar, newRow, newObj, Sem.run, Sem.run_pure]
    exact hK _ _ (h _ _ (hM.alloc v.cells ty))
end

/-! ## Regions that draw their order, while nothing known turns -/
/-- A world in which the listed blocks stand as listed. -/
structure MW (w0 : Base) (fr l : List Blk) where
  w : World
  h : Mem w0 w fr l

section
variable {P : Program} {a : Act} {w : World} {w0 : Base} {fr bl r : List Blk}

theorem wp_region_mem {id : Nat} {Q : Exit → Act → World → Prop} {l : List Oper} (hm : P.follows .mixedOrders = true) (hB : Region.lexB .any l.toArray = true) (hM : Mem w0 w fr bl)
    (h : wpQuiet P l.toArray (fun w' => ∃ s : MW w0 fr bl, w' = s.w) (fun a' => ∀ w', Mem w0 w' fr bl → Q .normal a' w') l a) : (Code.region id l.toArray true).wp P Q a w := by
  refine wp_region_quiet (C := fun w' => ∃ s : MW w0 fr bl, w' = s.w) hm hB ⟨⟨_, hM.step (w' := { w with drawn := w.drawn + 1 }) ⟨rfl, rfl, rfl, Nat.le_refl _, fun _ _ => rfl⟩⟩, rfl⟩ ?_
  have : (fun a' => ∀ w', (∃ s : MW w0 fr bl, w' = s.w) → Q .normal a' w') = (fun a' => ∀ w', Mem w0 w' fr bl → Q .normal a' w') := by
    funext a'
    exact propext ⟨fun h w' hw => h w' ⟨⟨w', hw⟩, rfl⟩, fun h w' ⟨s, hs⟩ => hs ▸ h s.w s.h⟩
  rw [this]
  exact h

/-- A callee that only makes blocks, met in such a region. -/
theorem quiet_call {f : FuncId} {args : Array Value} {s : MW w0 fr bl} {v : Value} (h : Calls P f args s.w fun e w' => e = .returned v ∧ Below s.w.heap.size s.w w') :
    Calls P f args s.w fun e w'' => e = .returned v ∧ ∃ s' : MW w0 fr bl, w'' = s'.w :=
  h.mono fun _ w' ⟨he, hb⟩ => ⟨he, ⟨w', s.h.step hb⟩, rfl⟩

/-- In such a region: a struct or an array is read whole. -/
theorem q_row {o : Oper} {K : Act → Prop} {ty : TypeId} {x : Operand} {g : Nat} {cs : Array Value} {t : TypeId} {fz : Nat × Nat} (hop : o.op = .load ty x)
    (hx : a.eval x = .pointer (some ⟨g, 0, none⟩)) (hp : Pick bl ⟨g, cs, t, fz⟩ r) (ht : RowTy P ty cs.size) (hk : K (a.put o.dst (.agg cs))) : o.quiet P a (fun w' => ∃ s : MW w0 fr bl, w' = s.w) K := by
  refine ⟨_, fun w' ⟨s, hs⟩ => ?_, hk⟩
  subst hs
  obtain ⟨d, hu, hd⟩ := ht.agg
  unfold Oper.quietAt execOp
  simp only [hop, hx, Instr.loadAt, Instr.sureAddr, Sem.run_bind, Sem.run_pure, Result.andThen_ok,
    run_loadVar_row s.w g t ty cs fz d (s.h.get hp) hu (by cases d <;> simp_all) ht.size]
  exact ⟨rfl, rfl⟩

/-- In such a region: one cell is read. -/
theorem q_cell {o : Oper} {K : Act → Prop} {ty : TypeId} {x : Operand} {g i : Nat} {cs : Array Value} {t : TypeId} {fz : Nat × Nat} {v : Value} (hop : o.op = .load ty x)
    (hx : a.eval x = .pointer (some ⟨g, i, none⟩)) (hp : Pick bl ⟨g, cs, t, fz⟩ r) (hv : cs[i]? = some v) (ht : OneTy P ty) (hk : K (a.put o.dst v)) : o.quiet P a (fun w' => ∃ s : MW w0 fr bl, w' = s.w) K := by
  refine ⟨_, fun w' ⟨s, hs⟩ => ?_, hk⟩
  subst hs
  unfold Oper.quietAt execOp
  simp only [hop, hx, Instr.loadAt, Instr.sureAddr, Sem.run_bind, Sem.run_pure, Result.andThen_ok,
    run_loadVar_one s.w ⟨g, i, none⟩ ty v ht ((s.h.cell hp i).trans hv)]
  exact ⟨rfl, rfl⟩

theorem MW.cell {g : Nat} {cs : Array Value} {t : TypeId} {fz : Nat × Nat} (hp : Pick bl ⟨g, cs, t, fz⟩ r) (s : MW w0 fr bl) (i : Nat) : s.w.cell? ⟨g, i, Option.none⟩ = cs[i]? := s.h.cell hp i
end
end Go.Proofs.YtfpfdnckibaldaaDoor.M
