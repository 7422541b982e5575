/- Rows of cells that a function tells, and the store of blocks as a list of known blocks. No condition. -/
import Derived.Test.YtiamkbmefllljaaMemX
namespace Go.Proofs.Ytiamkbmefllljaa.M
open Go.RowKit

/-- N cells, cell i is f i. -/
def tab (N : Nat) (f : Nat → Value) : Array Value := ((List.range N).map f).toArray

theorem tab_size (N : Nat) (f : Nat → Value) : (tab N f).size = N := by simp [tab]
theorem tab_get {N : Nat} {f : Nat → Value} {i : Nat} (h : i < N) : (tab N f)[i]? = some (f i) := by simp [tab, h]
theorem tab_out {N : Nat} {f : Nat → Value} {i : Nat} (h : N ≤ i) : (tab N f)[i]? = none := by simp [tab, h]

/-- A function turned at one place. -/
def up1 {α : Type} (f : Nat → α) (i : Nat) (v : α) : Nat → α := fun j => if j = i then v else f j
theorem up1_self {α : Type} (f : Nat → α) (i : Nat) (v : α) : up1 f i v i = v := by simp [up1]
theorem up1_ne {α : Type} (f : Nat → α) {i j : Nat} (v : α) (h : j ≠ i) : up1 f i v j = f j := by simp [up1, h]

/-- .. at a range. -/
def upr {α : Type} (f : Nat → α) (o n : Nat) (g : Nat → α) : Nat → α := fun j => if o ≤ j ∧ j < o + n then g (j - o) else f j

theorem tab_ext {cs : Array Value} {N : Nat} {f : Nat → Value} (hs : cs.size = N) (h : ∀ i, i < N → cs[i]? = some (f i)) : cs = tab N f := by
  apply Array.ext_getElem?
  intro i
  by_cases hi : i < N
  · rw [h i hi, tab_get hi]
  · rw [tab_out (by omega), Array.getElem?_eq_none (by omega)]

theorem tab_congr {N : Nat} {f g : Nat → Value} (h : ∀ i, i < N → f i = g i) : tab N f = tab N g :=
  tab_ext (tab_size _ _) (fun i hi => by rw [tab_get hi, h i hi])

theorem tab_set (N : Nat) (f : Nat → Value) (i : Nat) (v : Value) : (tab N f).setIfInBounds i v = tab N (up1 f i v) := by
  refine tab_ext (by simp [tab_size]) (fun j hj => ?_)
  rw [Array.getElem?_setIfInBounds]
  by_cases h : i = j
  · subst h
    rw [if_pos rfl, if_pos (by rw [tab_size]; exact hj), up1_self]
  · rw [if_neg h, tab_get hj, up1_ne _ _ (fun e => h e.symm)]

theorem tab_setInt (N : Nat) (k : IntKind) (f : Nat → Int) (i : Nat) (v : Int) : (tab N fun j => .int k (f j)).setIfInBounds i (.int k v) = tab N fun j => .int k (up1 f i v j) := by
  rw [tab_set]
  apply tab_congr
  intro j _
  unfold up1
  split <;> rfl

theorem tab_one {N : Nat} {k : IntKind} {f : Nat → Int} : allOne (tab N fun j => .int k (f j)).toList = true := by
  rw [allOne_iff]
  intro v hv
  simp only [tab, List.mem_map] at hv
  obtain ⟨j, _, rfl⟩ := hv
  rfl

/-- Values laid over a function's. -/
def put {α : Type} (D : Nat → α) (o : Nat) (l : List α) : Nat → α := fun j => if o ≤ j then (l[j - o]?).getD (D j) else D j

theorem put_in {α : Type} {D : Nat → α} {o : Nat} {l : List α} {j : Nat} {v : α} (h : l[j]? = some v) : put D o l (o + j) = v := by
  unfold put
  rw [if_pos (by omega), show o + j - o = j by omega, h]; rfl
theorem put_lt {α : Type} {D : Nat → α} {o : Nat} {l : List α} {j : Nat} (h : j < o) : put D o l j = D j := by
  unfold put
  rw [if_neg (by omega)]
theorem put_ge {α : Type} {D : Nat → α} {o : Nat} {l : List α} {j : Nat} (h : o + l.length ≤ j) : put D o l j = D j := by
  unfold put
  split
  · rw [List.getElem?_eq_none (by omega)]; rfl
  · rfl

theorem lay_tab {α : Type} (enc : α → Value) {N : Nat} {D : Nat → α} {o : Nat} {l : List α} (h : o + l.length ≤ N) : lay (tab N fun i => enc (D i)) o (l.map enc) = tab N fun i => enc (put D o l i) := by
  have h2 : o + (l.map enc).length ≤ (tab N fun i => enc (D i)).size := by rw [List.length_map, tab_size]; exact h
  refine tab_ext (by rw [lay_size h2, tab_size]) (fun i hi => ?_)
  rw [lay_get h2, List.length_map]
  split
  · rename_i hh
    rw [List.getElem?_map]
    have hj : i - o < l.length := by omega
    have he : l[i - o]? = some l[i - o] := by simp [hj]
    rw [he]
    have hp := put_in (D := D) (o := o) he
    rw [show o + (i - o) = i by omega] at hp
    rw [hp]; rfl
  · rename_i hh
    rw [tab_get hi]
    rcases Nat.lt_or_ge i o with h3 | h3
    · rw [put_lt h3]
    · rw [put_ge (by omega)]

/-- Where a store of blocks lies. -/
structure Ptr where
  a : Nat
  bd : Nat
  bh : Nat
  bf : Option Nat
  n : Nat
  cap : Nat

/-- What stands in it: the bytes, how often each block is held, the stack of free blocks and its height. -/
structure St where
  D : Nat → UInt8
  H : Nat → Int
  F : Nat → Int
  m : Nat

/-- The stack's slice. -/
def fsl (p : Ptr) (m : Nat) : Value := match p.bf with | none => .slice none 0 0 | some b => .slice (some ⟨b, 0, none⟩) m p.cap
/-- The stack's block. -/
def fbl (p : Ptr) (s : St) : List Blk := match p.bf with | none => [] | some b => [⟨b, tab p.cap (fun i => .int .i64 (s.F i)), 3, (0, 0)⟩]
/-- The blocks of a store. -/
def arena (p : Ptr) (s : St) : List Blk :=
  ⟨p.a, #[.slice (some ⟨p.bd, 0, none⟩) p.n p.n, .slice (some ⟨p.bh, 0, none⟩) p.n p.n, fsl p s.m], 74, (0, 0)⟩ ::
  ⟨p.bd, tab (p.n * 64) (fun i => u8 (s.D i)), 56, (0, 0)⟩ :: ⟨p.bh, tab p.n (fun i => .int .i64 (s.H i)), 3, (0, 0)⟩ :: fbl p s

/-- A block that is held. -/
def Held (p : Ptr) (s : St) (id : Int) : Prop := 0 ≤ id ∧ id < p.n ∧ 0 < s.H id.toNat

/-- How many of the first n are held. -/
def cnt (H : Nat → Int) : Nat → Nat
  | 0 => 0
  | n + 1 => cnt H n + if 0 < H n then 1 else 0

theorem cnt_le (H : Nat → Int) (n : Nat) : cnt H n ≤ n := by
  induction n with
  | zero => exact Nat.le_refl _
  | succ n ih => simp only [cnt]; split <;> omega

theorem cnt_congr {H H' : Nat → Int} {n : Nat} (h : ∀ i, i < n → H i = H' i) : cnt H n = cnt H' n := by
  induction n with
  | zero => rfl
  | succ n ih => simp only [cnt]; rw [ih (fun i hi => h i (by omega)), h n (by omega)]

theorem cnt_up (H : Nat → Int) {n i : Nat} (v : Int) (hi : i < n) : cnt (up1 H i v) n + (if 0 < H i then 1 else 0) = cnt H n + (if 0 < v then 1 else 0) := by
  induction n with
  | zero => omega
  | succ n ih =>
    simp only [cnt]
    by_cases h : i = n
    · subst h
      rw [up1_self, cnt_congr (H := up1 H i v) (H' := H) (fun j hj => up1_ne _ _ (by omega))]
      omega
    · have := ih (by omega)
      rw [up1_ne (j := n) _ _ (fun e => h e.symm)]
      omega

theorem cnt_pos {H : Nat → Int} {n i : Nat} (hi : i < n) (h : 0 < H i) : 1 ≤ cnt H n := by
  induction n with
  | zero => omega
  | succ n ih =>
    simp only [cnt]
    by_cases e : i = n
    · subst e; rw [if_pos h]; omega
    · have := ih (by omega); omega

/-- A store that may be. -/
structure Okay (p : Ptr) (s : St) : Prop where
  n_le : p.n ≤ 16384
  none_ : p.bf = none → p.n = 0 ∧ s.m = 0
  cap_ : p.bf ≠ none → p.n ≤ p.cap
  bal : s.m + cnt s.H p.n = p.n
  H_ge : ∀ i, i < p.n → 0 ≤ s.H i ∧ s.H i ≤ 1073741824
  F_in : ∀ i, i < s.m → 0 ≤ s.F i ∧ s.F i < p.n
  F_ne : ∀ i j, i < j → j < s.m → s.F i ≠ s.F j
  F_free : ∀ i, i < p.n → (s.H i = 0 ↔ ∃ j, j < s.m ∧ s.F j = i)
end Go.Proofs.Ytiamkbmefllljaa.M
