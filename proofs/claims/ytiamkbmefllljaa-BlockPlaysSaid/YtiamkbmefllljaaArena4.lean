/- The methods of a store of blocks, each whole. Conditions: a store that may be. -/
import Derived.Test.YtiamkbmefllljaaArena3
set_option linter.unusedSimpArgs false
set_option linter.unusedVariables false
namespace Go.Proofs.Ytiamkbmefllljaa.M
open Go.RowKit

section
variable {w0 : Base} {w : World} {p : Ptr} {s : St} {l : List Blk}

theorem Okay.m_le (ok : Okay p s) : s.m ≤ p.n := by have := ok.bal; omega

theorem Okay.some_ (ok : Okay p s) (h : 0 < p.n) : ∃ b, p.bf = some b := by
  cases hb : p.bf with
  | none => have := (ok.none_ hb).1; omega
  | some b => exact ⟨b, rfl⟩

theorem Okay.cap (ok : Okay p s) (h : 0 < p.n) : p.n ≤ p.cap := by
  obtain ⟨b, hb⟩ := ok.some_ h
  exact ok.cap_ (by rw [hb]; simp)

/-- A block that is held more often or less often, but neither taken nor freed. -/
theorem Okay.count (ok : Okay p s) {k : Nat} (h1 : k < p.n) {v : Int} (h2 : 0 < s.H k) (h3 : 0 < v) (h4 : v ≤ 1073741824) : Okay p { s with H := up1 s.H k v } where
  n_le := ok.n_le
  none_ := ok.none_
  cap_ := ok.cap_
  bal := by
    have h := cnt_up s.H v h1
    rw [if_pos h2, if_pos h3] at h
    have := ok.bal
    simp only at *
    omega
  H_ge := fun i hi => by
    simp only [up1]
    split
    · omega
    · exact ok.H_ge i hi
  F_in := ok.F_in
  F_ne := ok.F_ne
  F_free := fun i hi => by
    have h := ok.F_free i hi
    simp only [up1]
    by_cases e : i = k
    · subst e
      rw [if_pos rfl]
      constructor
      · intro hv; omega
      · intro hx; have := h.2 hx; omega
    · rw [if_neg e]; exact h

theorem Okay.bytes (ok : Okay p s) (D : Nat → UInt8) : Okay p { s with D := D } := ⟨ok.n_le, ok.none_, ok.cap_, ok.bal, ok.H_ge, ok.F_in, ok.F_ne, ok.F_free⟩

theorem Okay.freed (ok : Okay p s) {k : Nat} (h1 : k < p.n) (h2 : s.H k = 1) : Okay p { s with H := up1 s.H k (s.H k - 1), F := put s.F s.m [(k : Int)], m := s.m + 1 } where
  n_le := ok.n_le
  none_ := fun h => by have := (ok.none_ h).1; omega
  cap_ := ok.cap_
  bal := by
    have h := cnt_up s.H (s.H k - 1) h1
    rw [if_pos (by omega), if_neg (by omega)] at h
    have := ok.bal
    simp only at *
    omega
  H_ge := fun i hi => by
    simp only [up1]
    split
    · omega
    · exact ok.H_ge i hi
  F_in := fun i hi => by
    simp only at hi ⊢
    by_cases e : i < s.m
    · rw [put_lt e]; exact ok.F_in i e
    · obtain rfl : i = s.m := by omega
      have := put_in (D := s.F) (o := s.m) (l := [(k : Int)]) (j := 0) rfl
      rw [Nat.add_zero] at this
      rw [this]; omega
  F_ne := fun i j hij hj => by
    simp only at hj ⊢
    rw [put_lt (j := i) (by omega)]
    by_cases e : j < s.m
    · rw [put_lt e]; exact ok.F_ne i j hij e
    · obtain rfl : j = s.m := by omega
      have := put_in (D := s.F) (o := s.m) (l := [(k : Int)]) (j := 0) rfl
      rw [Nat.add_zero] at this
      rw [this]
      intro he
      have := (ok.F_free k h1).2 ⟨i, hij, he⟩
      omega
  F_free := fun i hi => by
    have hn := put_in (D := s.F) (o := s.m) (l := [(k : Int)]) (j := 0) rfl
    rw [Nat.add_zero] at hn
    have h := ok.F_free i hi
    simp only [up1]
    by_cases e : i = k
    · subst e
      rw [if_pos rfl]
      exact ⟨fun _ => ⟨s.m, by omega, hn⟩, fun _ => by omega⟩
    · rw [if_neg e, h]
      constructor
      · rintro ⟨j, hj, he⟩
        exact ⟨j, by omega, by rw [put_lt hj]; exact he⟩
      · rintro ⟨j, hj, he⟩
        by_cases ej : j < s.m
        · rw [put_lt ej] at he; exact ⟨j, ej, he⟩
        · obtain rfl : j = s.m := by omega
          rw [hn] at he
          exact absurd (by omega) e

theorem Okay.taken (ok : Okay p s) {m k : Nat} (hm : s.m = m + 1) (hF : s.F m = k) (h1 : k < p.n) (D : Nat → UInt8) : s.H k = 0 ∧ Okay p { D := D, H := up1 s.H k 1, F := s.F, m := m } := by
  have h0 : s.H k = 0 := (ok.F_free k h1).2 ⟨m, by omega, hF⟩
  refine ⟨h0, ok.n_le, fun h => ?_, ok.cap_, ?_, fun i hi => ?_, fun i hi => ok.F_in i (by simp only at hi; omega), fun i j hij hj => ok.F_ne i j hij (by simp only at hj; omega), fun i hi => ?_⟩
  · have := ok.none_ h; omega
  · have h := cnt_up s.H 1 h1
    rw [if_neg (by omega), if_pos (by omega)] at h
    have := ok.bal
    simp only at *
    omega
  · simp only [up1]
    split
    · omega
    · exact ok.H_ge i hi
  · have h := ok.F_free i hi
    simp only [up1]
    by_cases e : i = k
    · subst e
      rw [if_pos rfl]
      refine ⟨fun h => by omega, ?_⟩
      rintro ⟨j, hj, he⟩
      exact absurd (he.trans hF.symm) (ok.F_ne j m (by omega) (by omega))
    · rw [if_neg e, h]
      constructor
      · rintro ⟨j, hj, he⟩
        refine ⟨j, ?_, he⟩
        by_cases ej : j = m
        · subst ej; rw [hF] at he; exact absurd (by omega) e
        · omega
      · rintro ⟨j, hj, he⟩
        exact ⟨j, by omega, he⟩

end
end Go.Proofs.Ytiamkbmefllljaa.M
namespace Go.Proofs.Ytiamkbmefllljaa.A
open Go.RowKit Go.Proofs.Ytiamkbmefllljaa.M
section
variable {w0 : Base} {w : World} {p : Ptr} {s : St} {l : List Blk}
/-- The store's own pointer. -/
abbrev own (p : Ptr) : Value := .pointer (some ⟨p.a, 0, none⟩)

theorem take (hM : Mem w0 w (arena p s) l) (ok : Okay p s) (hm : 0 < s.m) :
    Calls Try.prog 16 #[own p] w fun e w' => ∃ (k : Nat) (s' : St), e = .returned (.tuple #[.int .i64 k, .int .i64 0]) ∧ Mem w0 w' (arena p s') l ∧ Okay p s' ∧ k < p.n ∧ s.H k = 0 ∧
      s'.D = put s.D (k * 64) (List.replicate 64 0) ∧ s'.H = up1 s.H k 1 ∧ s'.m + 1 = s.m := by
  have hle := ok.m_le
  have hn := ok.n_le
  obtain ⟨b, hb⟩ := ok.some_ (by omega)
  have hc := ok.cap (by omega)
  obtain ⟨m, hm'⟩ : ∃ m, s.m = m + 1 := ⟨s.m - 1, by omega⟩
  have hF := ok.F_in m (by omega)
  obtain ⟨k, hk⟩ := Int.eq_ofNat_of_zero_le hF.1
  have hk1 : k < p.n := by omega
  have ht := ok.taken hm' hk hk1 (put s.D (k * 64) (List.replicate 64 0))
  refine (take_ok hM b hb m hm' k hk hk1 hn (by omega) (by omega)).mono ?_
  rintro e w' ⟨he, hM'⟩
  exact ⟨k, _, he, hM', ht.2, hk1, ht.1, rfl, rfl, by simp only; omega⟩

theorem drop (hM : Mem w0 w (arena p s) l) (ok : Okay p s) (k : Nat) (h1 : k < p.n) (h2 : 0 < s.H k) :
    Calls Try.prog 20 #[own p, .int .i64 k] w fun e w' => ∃ s' : St, e = .returned (.int .i64 0) ∧ Mem w0 w' (arena p s') l ∧ Okay p s' ∧
      s'.D = s.D ∧ s'.H = up1 s.H k (s.H k - 1) ∧ s'.m = s.m + if s.H k = 1 then 1 else 0 := by
  have hH := ok.H_ge k h1
  have hn := ok.n_le
  by_cases h : s.H k = 1
  · obtain ⟨b, hb⟩ := ok.some_ (by omega)
    have hc := ok.cap (by omega)
    have hbal := ok.bal
    have hcnt := cnt_pos h1 h2
    refine (drop_last hM b hb k h1 (decide_eq_true h2) hn (beq_iff_eq.2 (by omega)) (by omega) (by omega) (by omega)).mono ?_
    rintro e w' ⟨he, hM'⟩
    exact ⟨_, he, hM', ok.freed h1 h, rfl, rfl, by simp only; rw [if_pos h]⟩
  · refine (drop_many hM k h1 (decide_eq_true h2) hn (beq_eq_false_iff_ne.2 (by omega)) (by omega) (by omega)).mono ?_
    rintro e w' ⟨he, hM'⟩
    exact ⟨_, he, hM', ok.count h1 h2 (by omega) (by omega), rfl, rfl, by simp only; rw [if_neg h]; rfl⟩

theorem hold (hM : Mem w0 w (arena p s) l) (ok : Okay p s) (k : Nat) (h1 : k < p.n) (h2 : 0 < s.H k) (h3 : s.H k < 1073741824) :
    Calls Try.prog 25 #[own p, .int .i64 k] w fun e w' => ∃ s' : St, e = .returned (.int .i64 0) ∧ Mem w0 w' (arena p s') l ∧ Okay p s' ∧
      s'.D = s.D ∧ s'.H = up1 s.H k (s.H k + 1) ∧ s'.m = s.m := by
  refine (hold_yes hM k h1 (decide_eq_true h2) ok.n_le (beq_eq_false_iff_ne.2 (by omega)) (by omega) (by omega)).mono ?_
  rintro e w' ⟨he, hM'⟩
  exact ⟨_, he, hM', ok.count h1 h2 (by omega) (by omega), rfl, rfl, rfl⟩

theorem write (hM : Mem w0 w (arena p s) l) (ok : Okay p s) (k : Nat) (h1 : k < p.n) (h2 : 0 < s.H k) (q : Nat) (x : Value) (bs : List UInt8) (hB : ∀ w', Mem w0 w' (arena p s) l → Bytes w' x bs)
    (hq : q ≤ 64) (hl : bs.length ≤ 64 - q) :
    Calls Try.prog 18 #[own p, .int .i64 k, .int .i64 q, x] w fun e w' => ∃ s' : St, e = .returned (.int .i64 0) ∧ Mem w0 w' (arena p s') l ∧ Okay p s' ∧
      s'.D = put s.D (k * 64 + q) bs ∧ s'.H = s.H ∧ s'.m = s.m := by
  refine (write_ok hM k h1 (decide_eq_true h2) ok.n_le q x bs hB hq hl).mono ?_
  rintro e w' ⟨he, hM'⟩
  exact ⟨_, he, hM', ok.bytes _, rfl, rfl, rfl⟩
end
end Go.Proofs.Ytiamkbmefllljaa.A
