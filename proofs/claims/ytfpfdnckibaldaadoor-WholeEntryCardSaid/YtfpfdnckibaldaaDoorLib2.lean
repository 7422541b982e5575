/- Rows of cells that a function tells; bytes that came in, and parts of them. No condition. -/
import Derived.Test.YtfpfdnckibaldaaDoorReg2
set_option linter.unusedVariables false
namespace Go.Proofs.YtfpfdnckibaldaaDoor.M
open Go.RowKit

/-- N cells, cell i is f i. -/
def tab (N : Nat) (f : Nat → Value) : Array Value := ((List.range N).map f).toArray

theorem tab_size (N : Nat) (f : Nat → Value) : (tab N f).size = N := by simp [tab]
theorem tab_get {N : Nat} {f : Nat → Value} {i : Nat} (h : i < N) : (tab N f)[i]? = some (f i) := by simp [tab, h]
theorem tab_out {N : Nat} {f : Nat → Value} {i : Nat} (h : N ≤ i) : (tab N f)[i]? = none := by simp [tab, h]

/-- A function turned at one place. -/
def up1 {α : Type} (f : Nat → α) (i : Nat) (v : α) : Nat → α := fun j => if j = i then v else f j
theorem up1_self {α : Type} (f : Nat → α) (i : Nat) (v : α) : up1 f i v i = v := by simp [up1]
theorem up1_ne {α : Type} (f : Nat → α) {i j : Nat} (v : α) (h : j ≠ i) : up1 f i v j = f j := by simp [up1, h]

/-- .. at a range. -/
def upr {α : Type} (f : Nat → α) (o n : Nat) (g : Nat → α) : Nat → α := fun j => if o ≤ j ∧ j < o + n then g (j - o) else f j

theorem tab_ext {cs : Array Value} {N : Nat} {f : Nat → Value} (hs : cs.size = N) (h : ∀ i, i < N → cs[i]? = some (f i)) : cs = tab N f := by
  apply Array.ext_getElem?
  intro i
  by_cases hi : i < N
  · rw [h i hi, tab_get hi]
  · rw [tab_out (by omega), Array.getElem?_eq_none (by omega)]

theorem tab_congr {N : Nat} {f g : Nat → Value} (h : ∀ i, i < N → f i = g i) : tab N f = tab N g :=
  tab_ext (tab_size _ _) (fun i hi => by rw [tab_get hi, h i hi])

theorem tab_set (N : Nat) (f : Nat → Value) (i : Nat) (v : Value) : (tab N f).setIfInBounds i v = tab N (up1 f i v) := by
  refine tab_ext (by simp [tab_size]) (fun j hj => ?_)
  rw [Array.getElem?_setIfInBounds]
  by_cases h : i = j
  · subst h
    rw [if_pos rfl, if_pos (by rw [tab_size]; exact hj), up1_self]
  · rw [if_neg h, tab_get hj, up1_ne _ _ (fun e => h e.symm)]

theorem tab_setInt (N : Nat) (k : IntKind) (f : Nat → Int) (i : Nat) (v : Int) : (tab N fun j => .int k (f j)).setIfInBounds i (.int k v) = tab N fun j => .int k (up1 f i v j) := by
  rw [tab_set]
  apply tab_congr
  intro j _
  unfold up1
  split <;> rfl

theorem tab_one {N : Nat} {k : IntKind} {f : Nat → Int} : allOne (tab N fun j => .int k (f j)).toList = true := by
  rw [allOne_iff]
  intro v hv
  simp only [tab, List.mem_map] at hv
  obtain ⟨j, _, rfl⟩ := hv
  rfl

/-- Values laid over a function's. -/
def put {α : Type} (D : Nat → α) (o : Nat) (l : List α) : Nat → α := fun j => if o ≤ j then (l[j - o]?).getD (D j) else D j

theorem put_in {α : Type} {D : Nat → α} {o : Nat} {l : List α} {j : Nat} {v : α} (h : l[j]? = some v) : put D o l (o + j) = v := by
  unfold put
  rw [if_pos (by omega), show o + j - o = j by omega, h]; rfl
theorem put_lt {α : Type} {D : Nat → α} {o : Nat} {l : List α} {j : Nat} (h : j < o) : put D o l j = D j := by
  unfold put
  rw [if_neg (by omega)]
theorem put_ge {α : Type} {D : Nat → α} {o : Nat} {l : List α} {j : Nat} (h : o + l.length ≤ j) : put D o l j = D j := by
  unfold put
  split
  · rw [List.getElem?_eq_none (by omega)]; rfl
  · rfl

theorem lay_tab {α : Type} (enc : α → Value) {N : Nat} {D : Nat → α} {o : Nat} {l : List α} (h : o + l.length ≤ N) : lay (tab N fun i => enc (D i)) o (l.map enc) = tab N fun i => enc (put D o l i) := by
  have h2 : o + (l.map enc).length ≤ (tab N fun i => enc (D i)).size := by rw [List.length_map, tab_size]; exact h
  refine tab_ext (by rw [lay_size h2, tab_size]) (fun i hi => ?_)
  rw [lay_get h2, List.length_map]
  split
  · rename_i hh
    rw [List.getElem?_map]
    have hj : i - o < l.length := by omega
    have he : l[i - o]? = some l[i - o] := by simp [hj]
    rw [he]
    have hp := put_in (D := D) (o := o) he
    rw [show o + (i - o) = i by omega] at hp
    rw [hp]; rfl
  · rename_i hh
    rw [tab_get hi]
    rcases Nat.lt_or_ge i o with h3 | h3
    · rw [put_lt h3]
    · rw [put_ge (by omega)]
section
variable {w : World} {w0 : Base} {fr l : List Blk}
theorem cell_lt {w : World} {a : Addr} {v : Value} (h : w.cell? a = some v) : a.block < w.heap.size := by
  unfold World.cell? at h
  rcases Nat.lt_or_ge a.block w.heap.size with hlt | hge
  · exact hlt
  · rw [Array.getElem?_eq_none hge] at h
    simp at h

/-- Bytes that came in. -/
theorem Bytes.came {x : Value} {bs : List UInt8} (h : Bytes w0.w x bs) (hM : Mem w0 w fr l) : Bytes w x bs := by
  cases h with
  | nil => exact .nil
  | at_ a bs c hc h => exact .at_ a bs c hc (fun j b hj => (hM.oldCell (a := a.add j) (cell_lt (h j b hj))).trans (h j b hj))

theorem u8_of {x : Int} (h : (Lit.int .u8 x).wf = true) : ∃ b : UInt8, Value.int .u8 x = u8 b := by
  have hr : 0 ≤ x ∧ x ≤ 255 := by
    have := h
    simp [Lit.wf] at this
    have h1 : IntKind.u8.min = 0 := rfl
    have h2 : IntKind.u8.max = 255 := rfl
    omega
  refine ⟨UInt8.ofNat x.toNat, ?_⟩
  unfold u8
  congr 1
  have h1 : x.toNat < 256 := by omega
  rw [UInt8.toNat_ofNat_of_lt' (by simpa [UInt8.size] using h1)]
  omega

theorem Bytes.cap_le {b : Option Addr} {n c : Nat} {bs : List UInt8} (h : Bytes w (.slice b n c) bs) : n ≤ c := by
  generalize hv : Value.slice b n c = v at h
  cases h with
  | nil =>
    simp only [Value.slice.injEq] at hv
    omega
  | at_ ad bs c' hc _ =>
    simp only [Value.slice.injEq] at hv
    omega

theorem Bytes.len_eq {b : Option Addr} {n c : Nat} {bs : List UInt8} (h : Bytes w (.slice b n c) bs) : bs.length = n := by
  generalize hv : Value.slice b n c = v at h
  cases h with
  | nil =>
    simp only [Value.slice.injEq] at hv
    exact hv.2.1.symm
  | at_ ad bs c' hc _ =>
    simp only [Value.slice.injEq] at hv
    exact hv.2.1.symm

theorem Bytes.upto {b : Option Addr} {len c n : Nat} {bs : List UInt8} (h : Bytes w (.slice b len c) bs) (hn : n ≤ len) : Bytes w (.slice b n c) (bs.take n) := by
  generalize hv : Value.slice b len c = v at h
  cases h with
  | nil =>
    simp only [Value.slice.injEq] at hv
    obtain ⟨rfl, rfl, rfl⟩ := hv
    obtain rfl : n = 0 := by omega
    exact .nil
  | at_ ad bs c' hc hb =>
    simp only [Value.slice.injEq] at hv
    obtain ⟨rfl, rfl, rfl⟩ := hv
    have hl : (bs.take n).length = n := by simp; omega
    have := Bytes.at_ (w := w) ad (bs.take n) c (by omega) (fun j x hj => by
      have hlt : j < n := by
        have := (List.getElem?_eq_some_iff.1 hj).1
        omega
      rw [List.getElem?_take_of_lt hlt] at hj
      exact hb j x hj)
    rw [hl] at this
    exact this

theorem Bytes.from_ {b : Option Addr} {len c m : Nat} {bs : List UInt8} (h : Bytes w (.slice b len c) bs) (hm : m ≤ len) : Bytes w (.slice (cutAt b c m 1) (len - m) (c - m)) (bs.drop m) := by
  have := h.cut (m := m) (n := len) hm (Nat.le_refl _)
  rwa [← h.len_eq, List.take_length, h.len_eq] at this

/-- Bytes in a row that is known by its cells. -/
theorem bytes_of {w0 : Base} {w : World} {fr l r : List Blk} {g q n c : Nat} {cs : Array Value} {t : TypeId} {fz : Nat × Nat} (hM : Mem w0 w fr l) (hp : Pick l ⟨g, cs, t, fz⟩ r) (bs : List UInt8) (hn : bs.length = n) (hc : n ≤ c)
    (h : ∀ j, j < n → cs[q + j]? = some (u8 (bs.getD j 0))) : Bytes w (.slice (some ⟨g, q, none⟩) n c) bs :=
  hM.bytes hp hn hc (fun j b hj => by
    have hlt : j < n := by rw [← hn]; exact (List.getElem?_eq_some_iff.1 hj).1
    rw [h j hlt, List.getD_eq_getElem?_getD, hj]; rfl)

/-- The n bytes from o on. -/
def seg (D : Nat → UInt8) (o n : Nat) : List UInt8 := (List.range n).map fun j => D (o + j)

theorem seg_len (D : Nat → UInt8) (o n : Nat) : (seg D o n).length = n := by simp [seg]
theorem seg_get {D : Nat → UInt8} {o n j : Nat} (h : j < n) : (seg D o n)[j]? = some (D (o + j)) := by simp [seg, h]
theorem seg_congr {D D' : Nat → UInt8} {o o' n : Nat} (h : ∀ j, j < n → D (o + j) = D' (o' + j)) : seg D o n = seg D' o' n := by
  unfold seg
  exact List.map_congr_left fun j hj => h j (List.mem_range.1 hj)
theorem seg_put {D : Nat → UInt8} {o : Nat} {bs : List UInt8} {n : Nat} (h : bs.length = n) : seg (put D o bs) o n = bs := by
  subst h
  apply List.ext_getElem?
  intro j
  by_cases hj : j < bs.length
  · rw [seg_get hj, List.getElem?_eq_getElem hj]
    exact congrArg some (put_in (List.getElem?_eq_getElem hj))
  · rw [List.getElem?_eq_none (by rw [seg_len]; omega), List.getElem?_eq_none (by omega)]


/-- Bytes that stand at a place. -/
def At (w : World) (g q : Nat) (bs : List UInt8) : Prop := ∀ j (b : UInt8), bs[j]? = some b → w.cell? ⟨g, q + j, none⟩ = some (u8 b)

theorem At.cell {g q : Nat} {bs : List UInt8} (h : At w g q bs) {j : Nat} (hj : j < bs.length) : w.cell? ⟨g, q + j, none⟩ = some (.int .u8 (bs[j].toNat : Int)) := h j _ (List.getElem?_eq_getElem hj)

theorem At.bytes {g q c : Nat} {bs : List UInt8} (h : At w g q bs) (hc : bs.length ≤ c) : Bytes w (.slice (some ⟨g, q, none⟩) bs.length c) bs :=
  .at_ _ _ _ hc (fun j b hj => by rw [Addr.add_lit]; exact h j b hj)

/-- A row of bytes. -/
def row (c : Nat) (D : Nat → UInt8) : Array Value := tab c fun i => u8 (D i)
theorem row_size (c : Nat) (D : Nat → UInt8) : (row c D).size = c := tab_size _ _
theorem row_get {c : Nat} {D : Nat → UInt8} {i : Nat} (h : i < c) : (row c D)[i]? = some (u8 (D i)) := tab_get h
theorem row_lay {c o : Nat} {D : Nat → UInt8} {bs : List UInt8} (h : o + bs.length ≤ c) : lay (row c D) o (bs.map u8) = row c (put D o bs) := lay_tab u8 h
theorem row_set {c i : Nat} {D : Nat → UInt8} {b : UInt8} : (row c D).setIfInBounds i (u8 b) = row c (up1 D i b) := by
  unfold row
  rw [tab_set]
  apply tab_congr
  intro j _
  unfold up1
  split <;> rfl
theorem row_congr {c : Nat} {D D' : Nat → UInt8} (h : ∀ i, i < c → D i = D' i) : row c D = row c D' := tab_congr fun i hi => by rw [h i hi]
theorem row_ext {cs : Array Value} {c : Nat} {D : Nat → UInt8} (hs : cs.size = c) (h : ∀ i, i < c → cs[i]? = some (u8 (D i))) : cs = row c D := tab_ext hs h

theorem Mem.at_row {r : List Blk} {g q n c : Nat} {D : Nat → UInt8} {t : TypeId} {fz : Nat × Nat} (hM : Mem w0 w fr l) (hp : Pick l ⟨g, row c D, t, fz⟩ r) (h : q + n ≤ c) : At w g q (seg D q n) := fun j b hj => by
  have hlt : j < n := by
    have := (List.getElem?_eq_some_iff.1 hj).1
    rwa [seg_len] at this
  rw [hM.cell hp, row_get (by omega)]
  rw [seg_get hlt] at hj
  rw [Option.some.inj hj]
theorem Mem.at_list {r : List Blk} {g : Nat} {bs : List UInt8} {t : TypeId} {fz : Nat × Nat} (hM : Mem w0 w fr l) (hp : Pick l ⟨g, (bs.map u8).toArray, t, fz⟩ r) : At w g 0 bs := fun j b hj => by
  rw [hM.cell hp, Nat.zero_add, List.getElem?_toArray, List.getElem?_map, hj]
  rfl
end
end Go.Proofs.YtfpfdnckibaldaaDoor.M
