/- Slices of block numbers, as they stand in a memory of known blocks. No condition. -/
import Derived.Test.YtiamkbmefllljaaQuiet
set_option linter.unusedVariables false
namespace Go.Proofs.Ytiamkbmefllljaa.M
open Go.RowKit

/-- A number as a cell. -/
def i64 (n : Nat) : Value := .int .i64 (n : Int)

/-- A slice of numbers, as it stands in w. -/
inductive Ints (w : World) : Value → List Nat → Prop
  | nil : Ints w (.slice none 0 0) []
  | at_ (a : Addr) (l : List Nat) (c : Nat) (hc : l.length ≤ c) (h : ∀ (j : Nat) (b : Nat), l[j]? = some b → w.cell? (a.add j) = some (i64 b)) : Ints w (.slice (some a) l.length c) l

section
variable {P : Program} {w : World} {w0 : Base} {fr l r : List Blk}

theorem Ints.len {x : Value} {L : List Nat} (h : Ints w x L) : ∃ b c, x = .slice b L.length c := by
  cases h with
  | nil => exact ⟨none, 0, rfl⟩
  | at_ a l c _ _ => exact ⟨some a, c, rfl⟩

theorem Ints.src {x : Value} {L : List Nat} {tx e' : TypeId} (h : Ints w x L) (hk : P.underlying tx = some (.slice e')) : Src P 1 tx x L.length (L.map i64) w := by
  cases h with
  | nil => exact Src.ofNil w hk 0
  | at_ a l c _ h =>
    refine Src.ofSlice w hk a L.length c _ (by simp) (fun j u hu => ?_) (fun u hu => ?_)
    · rw [List.getElem?_map] at hu
      cases hb : L[j]? with
      | none => simp [hb] at hu
      | some b =>
        simp only [hb, Option.map_some, Option.some.injEq] at hu
        rw [h j b hb, hu]
    · obtain ⟨b, _, rfl⟩ := List.mem_map.1 hu
      rfl

theorem Mem.ints {g q n c : Nat} {cs : Array Value} {t : TypeId} {fz : Nat × Nat} {L : List Nat} (hM : Mem w0 w fr l) (hp : Pick l ⟨g, cs, t, fz⟩ r) (hn : L.length = n) (hc : n ≤ c) (h : ∀ (j b : Nat), L[j]? = some b → cs[q + j]? = some (i64 b)) :
    Ints w (.slice (some ⟨g, q, Option.none⟩) n c) L := by
  subst hn
  refine .at_ _ _ _ hc (fun j b hj => ?_)
  rw [Addr.add_lit, hM.cell hp]
  exact h j b hj

theorem Ints.cell {b : Option Addr} {c : Nat} {L : List Nat} (h : Ints w (.slice b L.length c) L) {i : Nat} (hi : i < L.length) : ∃ a, b = some a ∧ w.cell? (a.add i) = some (i64 L[i]) := by
  generalize hv : Value.slice b L.length c = v at h
  cases h with
  | nil => simp at hi
  | at_ a L c' _ h =>
    simp only [Value.slice.injEq] at hv
    obtain ⟨rfl, _, rfl⟩ := hv
    exact ⟨a, rfl, h i L[i] (by simp [hi])⟩
end
end Go.Proofs.Ytiamkbmefllljaa.M
