/- The methods of a store of blocks, as the statements call them. Conditions: a store that may be. -/
import Derived.Test.YtiamkbmefllljaaArena4
set_option linter.unusedSimpArgs false
set_option linter.unusedVariables false
namespace Go.Proofs.Ytiamkbmefllljaa.A
open Go.RowKit Go.Proofs.Ytiamkbmefllljaa.M

section
variable {w0 : Base} {w : World} {p : Ptr} {s : St} {l : List Blk}

theorem new (hM : Mem w0 w l []) (n : Nat) (hn : n ≤ 16384) {v : Int} (hv : v = (n : Int)) :
    Calls Try.prog 15 #[.int .i64 v] w fun e w' => ∃ p s, e = .returned (.tuple #[own p, .int .i64 0]) ∧ p.n = n ∧ Okay p s ∧ s.m = n ∧ (∀ i, s.H i = 0) ∧ Mem w0 w' (arena p s) l := by
  subst hv
  exact new_ok hM n hn

theorem free (hM : Mem w0 w (arena p s) l) (ok : Okay p s) (m : Int) (hm : s.m = m) : Calls Try.prog 19 #[own p] w fun e w' => e = .returned (.int .i64 m) ∧ Mem w0 w' (arena p s) l := by
  subst hm
  exact free_ hM (fun h => (ok.none_ h).2)

theorem len (hM : Mem w0 w (arena p s) l) (n : Int) (hn : p.n = n) : Calls Try.prog 26 #[own p] w fun e w' => e = .returned (.int .i64 n) ∧ Mem w0 w' (arena p s) l := by
  subst hn
  exact len_ hM

theorem holds (hM : Mem w0 w (arena p s) l) (ok : Okay p s) (k : Nat) (h1 : k < p.n) (v : Int) (hv : s.H k = v) : Calls Try.prog 21 #[own p, .int .i64 k] w fun e w' => e = .returned (.int .i64 v) ∧ Mem w0 w' (arena p s) l := by
  subst hv
  by_cases h : 0 < s.H k
  · exact holds_yes hM k h1 (decide_eq_true h) ok.n_le
  · have h0 : s.H k = 0 := by have := (ok.H_ge k h1).1; omega
    rw [h0]
    refine holds_no hM k (hid_ ?_) ok.n_le
    rintro ⟨_, _, h2⟩
    exact h (by simpa using h2)

theorem read (hM : Mem w0 w (arena p s) l) (ok : Okay p s) (k : Nat) (h1 : k < p.n) (h2 : 0 < s.H k) (q n : Nat) {vq vn : Int} (hvq : vq = (q : Int)) (hvn : vn = (n : Int)) (hq : q ≤ 64) (hn : n ≤ 64 - q) :
    Calls Try.prog 17 #[own p, .int .i64 k, .int .i64 vq, .int .i64 vn] w fun e w' => ∃ g c cs, e = .returned (.tuple #[.slice (some ⟨g, 0, none⟩) n c, .int .i64 0]) ∧ Mem w0 w' (arena p s) (⟨g, cs, 5, (0, 0)⟩ :: l) ∧
      cs.size = c ∧ n ≤ c ∧ ∀ j, j < n → cs[j]? = some (u8 (s.D (k * 64 + q + j))) := by
  subst hvq hvn
  exact read_ok hM k h1 (decide_eq_true h2) ok.n_le q n hq hn

theorem write' (hM : Mem w0 w (arena p s) l) (ok : Okay p s) (k : Nat) (h1 : k < p.n) (h2 : 0 < s.H k) (q : Nat) {vq : Int} (hvq : vq = (q : Int)) (x : Value) (bs : List UInt8) (hB : ∀ w', Mem w0 w' (arena p s) l → Bytes w' x bs)
    (hq : q ≤ 64) (hl : bs.length ≤ 64 - q) :
    Calls Try.prog 18 #[own p, .int .i64 k, .int .i64 vq, x] w fun e w' => ∃ s' : St, e = .returned (.int .i64 0) ∧ Mem w0 w' (arena p s') l ∧ Okay p s' ∧
      s'.D = put s.D (k * 64 + q) bs ∧ s'.H = s.H ∧ s'.m = s.m := by
  subst hvq
  exact write hM ok k h1 h2 q x bs hB hq hl

theorem take_none (hM : Mem w0 w (arena p s) l) (h : s.m = 0) : Calls Try.prog 16 #[own p] w fun e w' => e = .returned (.tuple #[.int .i64 0, .int .i64 3]) ∧ Mem w0 w' (arena p s) l := take_full hM h

/-- Bytes in a row that is known by its cells. -/
theorem bytes_of {w0 : Base} {w : World} {fr l r : List Blk} {g q n c : Nat} {cs : Array Value} {t : TypeId} {fz : Nat × Nat} (hM : Mem w0 w fr l) (hp : Pick l ⟨g, cs, t, fz⟩ r) (bs : List UInt8) (hn : bs.length = n) (hc : n ≤ c)
    (h : ∀ j, j < n → cs[q + j]? = some (u8 (bs.getD j 0))) : Bytes w (.slice (some ⟨g, q, none⟩) n c) bs :=
  hM.bytes hp hn hc (fun j b hj => by
    have hlt : j < n := by rw [← hn]; exact (List.getElem?_eq_some_iff.1 hj).1
    rw [h j hlt, List.getD_eq_getElem?_getD, hj]; rfl)

/-- The n bytes from o on. -/
def seg (D : Nat → UInt8) (o n : Nat) : List UInt8 := (List.range n).map fun j => D (o + j)

theorem seg_len (D : Nat → UInt8) (o n : Nat) : (seg D o n).length = n := by simp [seg]
theorem seg_get {D : Nat → UInt8} {o n j : Nat} (h : j < n) : (seg D o n)[j]? = some (D (o + j)) := by simp [seg, h]
theorem seg_congr {D D' : Nat → UInt8} {o o' n : Nat} (h : ∀ j, j < n → D (o + j) = D' (o' + j)) : seg D o n = seg D' o' n := by
  unfold seg
  exact List.map_congr_left fun j hj => h j (List.mem_range.1 hj)
theorem seg_put {D : Nat → UInt8} {o : Nat} {bs : List UInt8} {n : Nat} (h : bs.length = n) : seg (put D o bs) o n = bs := by
  subst h
  apply List.ext_getElem?
  intro j
  by_cases hj : j < bs.length
  · rw [seg_get hj, List.getElem?_eq_getElem hj]
    exact congrArg some (put_in (List.getElem?_eq_getElem hj))
  · rw [List.getElem?_eq_none (by rw [seg_len]; omega), List.getElem?_eq_none (by omega)]

/-- What was read, as bytes. -/
theorem read_bytes {w0 : Base} {w : World} {fr l r : List Blk} {g n c o : Nat} {cs : Array Value} {D : Nat → UInt8} {t : TypeId} {fz : Nat × Nat} (hM : Mem w0 w fr l) (hp : Pick l ⟨g, cs, t, fz⟩ r) (hc : n ≤ c)
    (h : ∀ j, j < n → cs[j]? = some (u8 (D (o + j)))) : Bytes w (.slice (some ⟨g, 0, none⟩) n c) (seg D o n) :=
  hM.bytes hp (seg_len _ _ _) hc (fun j b hj => by
    have hlt : j < n := by
      have := (List.getElem?_eq_some_iff.1 hj).1
      rwa [seg_len] at this
    rw [Nat.zero_add, h j hlt]
    rw [seg_get hlt] at hj
    rw [Option.some.inj hj])
end
end Go.Proofs.Ytiamkbmefllljaa.A
