/- Bytes are put behind a content, whatever it is; the ways of contents as the statements call them. Conditions: a content that may be. -/
import Derived.Test.YtiamkbmefllljaaExt6
import Derived.Test.YtiamkbmefllljaaExt7
set_option linter.unusedVariables false
namespace Go.Proofs.Ytiamkbmefllljaa.E
open Go.RowKit Go.Proofs.Ytiamkbmefllljaa.M Go.Proofs.Ytiamkbmefllljaa.A Go.Proofs.Ytiamkbmefllljaa.L

/-- How many blocks are taken. -/
def more (H : Nat → Int) (L : List Nat) (n len : Nat) : Nat := if len = 0 then 0 else mo H L n len

/-- What stands when bytes, or none, were put behind a content. -/
structure Added (p : Ptr) (s : St) (L : List Nat) (n : Nat) (bs : List UInt8) (s' : St) (L' : List Nat) : Prop where
  ok : Okay p s'
  len : L'.length = nd (n + bs.length)
  mem : ∀ id ∈ L', id < p.n
  H : ∀ id, s'.H id + (L.count id : Nat) = s.H id + (L'.count id : Nat)
  m : s'.m + more s.H L n bs.length = s.m
  bytes : ∀ i, i < n + bs.length → byte s'.D L' i = if i < n then byte s.D L i else bs.getD (i - n) 0
  other : ∀ id, (L.count id : Int) < s.H id → ∀ j, j < 64 → s'.D (id * 64 + j) = s.D (id * 64 + j)
  one : (∀ id ∈ L, s.H id = 1) → ∀ id ∈ L', s'.H id = 1

theorem Added.of {p : Ptr} {s s' : St} {L L' : List Nat} {n : Nat} {bs : List UInt8} (h0 : 0 < bs.length) (h : App p s L n bs s' L') : Added p s L n bs s' L' where
  ok := h.ok
  len := h.len
  mem := h.mem
  H := h.H
  m := by unfold more; rw [if_neg (by omega)]; exact h.m
  bytes := h.bytes
  other := h.other
  one := h.one

theorem Added.none {p : Ptr} {s : St} {L : List Nat} {n : Nat} (ok : Okay p s) (hc : Cn p s L n) : Added p s L n [] s L where
  ok := ok
  len := hc.len
  mem := fun id hid => (hc.mem id hid).1
  H := fun _ => rfl
  m := rfl
  bytes := fun i hi => by rw [if_pos (by simpa using hi)]
  other := fun _ _ _ _ => rfl
  one := fun h => h

section
variable {w0 : Base} {w : World} {p : Ptr} {s : St} {l : List Blk}

/-- There is room. -/
theorem eappend_ok (hM : Mem w0 w (arena p s) l) (ok : Okay p s) (x bx : Value) (L : List Nat) (bs : List UInt8) (n : Nat) (hI : IdsAt w0 x L) (hB : BsAt w0 bx bs) (hc : Cn p s L n)
    (hmax : n + bs.length ≤ 1048576) (hfit : more s.H L n bs.length ≤ s.m) :
    Calls Try.prog 22 #[own p, .agg #[x, .int .i64 n], bx] w fun e w' => ∃ s' y L' B, e = .returned (.tuple #[.agg #[y, .int .i64 ((n + bs.length : Nat) : Int)], .int .i64 0]) ∧ Le w0 B ∧ IdsAt B y L' ∧ Mem B w' (arena p s') l ∧ Added p s L n bs s' L' := by
  by_cases h0 : bs = []
  · refine (eappend_zero hM ok x bx L bs n hI hB hc h0).mono ?_
    subst h0
    rintro e w' ⟨rfl, hM'⟩
    exact ⟨s, x, L, w0, rfl, Le.refl _, hI, hM', .none ok hc⟩
  · have h1 : 0 < bs.length := List.length_pos_iff.2 h0
    unfold more at hfit
    rw [if_neg (by omega)] at hfit
    by_cases hq : n % 64 = 0
    · refine (eappend_A hM ok x bx L bs n hI hB hc h1 hmax hq hfit).mono ?_
      rintro e w' ⟨s', y, L', B, he, hB', hI', hM', ha⟩
      exact ⟨s', y, L', B, he, hB', hI', hM', .of h1 ha⟩
    · by_cases hown : s.H (L.getD (n / 64) 0) = 1
      · refine (eappend_B hM ok x bx L bs n hI hB hc h1 hmax hq hown hfit).mono ?_
        rintro e w' ⟨s', y, L', B, he, hB', hI', hM', ha⟩
        exact ⟨s', y, L', B, he, hB', hI', hM', .of h1 ha⟩
      · refine (eappend_C hM ok x bx L bs n hI hB hc h1 hmax hq hown hfit).mono ?_
        rintro e w' ⟨s', y, L', B, he, hB', hI', hM', ha⟩
        exact ⟨s', y, L', B, he, hB', hI', hM', .of h1 ha⟩

/-- There is none. -/
theorem eappend_full (hM : Mem w0 w (arena p s) l) (ok : Okay p s) (x bx : Value) (L : List Nat) (bs : List UInt8) (n : Nat) (hI : IdsAt w0 x L) (hB : BsAt w0 bx bs) (hc : Cn p s L n)
    (hmax : n + bs.length ≤ 1048576) (hfit : s.m < more s.H L n bs.length) :
    Calls Try.prog 22 #[own p, .agg #[x, .int .i64 n], bx] w fun e w' => e = .returned (.tuple #[.agg #[x, .int .i64 n], .int .i64 3]) ∧ Mem w0 w' (arena p s) l := by
  unfold more at hfit
  have h1 : 0 < bs.length := by
    rcases Nat.eq_zero_or_pos bs.length with h | h
    · rw [if_pos h] at hfit; omega
    · exact h
  rw [if_neg (by omega)] at hfit
  by_cases hq : n % 64 = 0
  · exact eappend_full_A hM ok x bx L bs n hI hB hc h1 hmax hq hfit
  · by_cases hown : s.H (L.getD (n / 64) 0) = 1
    · exact eappend_full_B hM ok x bx L bs n hI hB hc h1 hmax hq hown hfit
    · exact eappend_full_C hM ok x bx L bs n hI hB hc h1 hmax hq hown hfit
end
end Go.Proofs.Ytiamkbmefllljaa.E
