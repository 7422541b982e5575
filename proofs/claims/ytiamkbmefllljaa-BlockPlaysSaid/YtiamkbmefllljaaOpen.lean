/- Slices of records that came in, and how they are opened. No condition. -/
import Derived.Test.YtiamkbmefllljaaBs
import Derived.Test.YtiamkbmefllljaaTbl
set_option linter.unusedVariables false
namespace Go.Proofs.Ytiamkbmefllljaa.M
open Go.RowKit Go.ChangeShapes Go.WideShapes

/-- A slice of records of k cells, as it stands in w. -/
inductive Recs {α : Type} (w : World) (k : Nat) (E : α → List Value → Prop) : Value → List α → Prop
  | nil : Recs w k E (.slice none 0 0) []
  | at_ (a : Addr) (l : List α) (c : Nat) (hc : l.length ≤ c) (h : ∀ (j : Nat) (x : α), l[j]? = some x → ∃ cs : List Value, cs.length = k ∧ (∀ (i : Nat) (u : Value), cs[i]? = some u → w.cell? ((a.add (j * k)).add i) = some u) ∧ E x cs) : Recs w k E (.slice (some a) l.length c) l

section
variable {α : Type} {w : World} {k : Nat} {E : α → List Value → Prop} {x : Value} {l : List α}

theorem Recs.len (h : Recs w k E x l) : ∃ b c, x = .slice b l.length c := by
  cases h with
  | nil => exact ⟨none, 0, rfl⟩
  | at_ a l c _ _ => exact ⟨some a, c, rfl⟩

theorem cells_at {base : Nat} {a : Addr} {n : Nat} {cs : List Value} (h : w.cells? base a n = some cs) : cs.length = n ∧ ∀ (i : Nat) (u : Value), cs[i]? = some u → w.cell? (a.add i) = some u := by
  obtain ⟨_, hl, hc⟩ := World.cells?_some h
  refine ⟨hl, fun i u hu => ?_⟩
  have hi : i < n := by
    have := (List.getElem?_eq_some_iff.1 hu).1
    omega
  rw [← hu]
  first | exact hc i hi | exact (hc i hi).symm

theorem open_recs {H : Type} {enc : TypeId × Value → H} {W : World} {held : Bool} {t e : TypeId} {fuel : Nat} {cs : List Value} {d : DataW H × List MemPlace} (ht : Try.prog.underlying t = some (.slice e)) (hk : Try.prog.cellsOf e = k)
    (h : DataW.trod enc Try.prog W 0 (fun _ => true) held fuel t cs = some d)
    (hE : ∀ (n : Nat) (cs : List Value) (d : DataW H × List MemPlace), DataW.trod enc Try.prog W 0 (fun _ => true) held n e cs = some d → cs.length = k → ∃ x : α, E x cs) :
    ∃ v l, cs = [v] ∧ Recs W k E v l := by
  rcases Go.Deep.open_slice ht h with ⟨rfl, _⟩ | ⟨a, len, cap, m, n, D, Pl, rfl, _, hle, _, hm, _, hel⟩
  · exact ⟨_, [], rfl, .nil⟩
  rw [if_pos rfl] at hm
  subst hm
  rw [hk] at hel
  have each : ∀ i, i < len → ∃ y : α × List Value, y.2.length = k ∧ (∀ (j : Nat) (u : Value), y.2[j]? = some u → W.cell? ((a.add (i * k)).add j) = some u) ∧ E y.1 y.2 := by
    intro i hi
    obtain ⟨cs', h1, h2⟩ := hel i (by omega)
    obtain ⟨h3, h4⟩ := cells_at h1
    obtain ⟨x, hx⟩ := hE n cs' _ h2 h3
    exact ⟨(x, cs'), h3, h4, hx⟩
  by_cases h0 : len = 0
  · subst h0
    exact ⟨_, [], rfl, .at_ a [] m (by simp) (fun j x hj => by simp at hj)⟩
  obtain ⟨y0, _⟩ := each 0 (by omega)
  haveI : Inhabited (α × List Value) := ⟨y0⟩
  obtain ⟨f, hf⟩ := Go.Deep.choose_lt each
  have hl : ((List.range len).map fun i => (f i).1).length = len := by rw [List.length_map, List.length_range]
  refine ⟨_, (List.range len).map fun i => (f i).1, rfl, ?_⟩
  have := Recs.at_ (w := W) (k := k) (E := E) a ((List.range len).map fun i => (f i).1) m (by rw [hl]; exact hle) (fun j b hj => by
    rw [List.getElem?_map] at hj
    by_cases hjl : j < len
    · rw [List.getElem?_range hjl] at hj
      simp only [Option.map_some, Option.some.injEq] at hj
      subst hj
      exact ⟨(f j).2, hf j hjl⟩
    · rw [List.getElem?_eq_none (by simpa using hjl)] at hj
      cases hj)
  rw [hl] at this
  exact this

/-- One record. -/
theorem Recs.get {b : Option Addr} {c : Nat} (h : Recs w k E (.slice b l.length c) l) {j : Nat} (hj : j < l.length) :
    ∃ (a : Addr) (cs : List Value), b = some a ∧ cs.length = k ∧ (∀ (i : Nat) (u : Value), cs[i]? = some u → w.cell? ((a.add (j * k)).add i) = some u) ∧ E l[j] cs := by
  generalize hv : Value.slice b l.length c = v at h
  cases h with
  | nil => simp at hj
  | at_ a l c' _ h =>
    simp only [Value.slice.injEq] at hv
    obtain ⟨rfl, _, rfl⟩ := hv
    obtain ⟨cs, h1, h2, h3⟩ := h j l[j] (by simp [hj])
    exact ⟨a, cs, rfl, h1, h2, h3⟩

theorem open_bytes' {H : Type} {enc : TypeId × Value → H} {W : World} {held : Bool} {fuel : Nat} {cs : List Value} {d : DataW H × List MemPlace} (h : DataW.trod enc Try.prog W 0 (fun _ => true) held fuel 22 cs = some d) :
    ∃ v bs, cs = [v] ∧ Bytes W v bs := by
  obtain ⟨v, l, rfl, hr⟩ := open_recs (α := UInt8) (k := 1) (E := fun b cs => cs = [u8 b]) Try.underlying22 (by kernel_rfl) h (fun n cs d hd _ => by
    obtain ⟨x, hx, _, hw⟩ := DataW.trod_int Try.underlying5 hd
    obtain ⟨b, hb⟩ := u8_of hw
    exact ⟨b, by rw [hx, hb]⟩)
  refine ⟨v, l, rfl, ?_⟩
  cases hr with
  | nil => exact .nil
  | at_ a l c hc hrec =>
    refine .at_ a l c hc (fun j b hj => ?_)
    obtain ⟨cs, h1, h2, rfl⟩ := hrec j b hj
    have := h2 0 (u8 b) rfl
    rwa [Nat.mul_one, add_add, Nat.add_zero] at this

/-- Bytes in a record. -/
def BytesRec (W : World) : List UInt8 → List Value → Prop := fun bs cs => ∃ v, cs = [v] ∧ Bytes W v bs

theorem opened_tails {H : Type} {enc : TypeId × Value → H} {W : World} {base : Nat} {v : Value} {d : DataW H} {p : List MemPlace} (hval : Value.okWide Try.prog W .any base 70 v) (h : DataW.Trod enc Try.prog W 0 (fun _ => true) true 70 v d p) :
    ∃ bss, Recs W 1 (BytesRec W) v bss := by
  obtain ⟨a, len, cap, rfl⟩ := okWide_slice Try.underlying70 hval
  obtain ⟨fuel, hf⟩ := h
  have hf' : DataW.trod enc Try.prog W 0 (fun _ => true) true fuel 70 [.slice a len cap] = some (d, p) := hf
  obtain ⟨v', l, hv, hr⟩ := open_recs (α := List UInt8) (k := 1) (E := BytesRec W) Try.underlying70 (by kernel_rfl) hf' (fun n cs d hd _ => by
    obtain ⟨v, bs, rfl, hb⟩ := open_bytes' hd
    exact ⟨bs, v, rfl, hb⟩)
  simp only [List.cons.injEq, and_true] at hv
  subst hv
  exact ⟨l, hr⟩
end
end Go.Proofs.Ytiamkbmefllljaa.M
