/- Octal fields as lists of bytes: how many digits a number has, what digits say. No condition. -/
import Derived.Test.YtfpfdnckibaldaaDoorReg2
set_option linter.unusedVariables false
namespace Go.Proofs.YtfpfdnckibaldaaDoor.O

/-- How many octal digits a number has. -/
def dig (n : Nat) : Nat := if n < 8 then 1 else dig (n / 8) + 1
termination_by n
decreasing_by omega

theorem dig_small {n : Nat} (h : n < 8) : dig n = 1 := by rw [dig, if_pos h]
theorem dig_big {n : Nat} (h : 8 ≤ n) : dig n = dig (n / 8) + 1 := by rw [dig, if_neg (by omega)]
theorem dig_pos (n : Nat) : 1 ≤ dig n := by
  by_cases h : n < 8
  · rw [dig_small h]; exact Nat.le_refl _
  · rw [dig_big (by omega)]; omega

theorem dig_le {k : Nat} : ∀ n, dig n ≤ k + 1 ↔ n < 8 ^ (k + 1) := by
  induction k with
  | zero =>
    intro n
    by_cases h : n < 8
    · rw [dig_small h]; simp [h]
    · rw [dig_big (by omega)]
      have := dig_pos (n / 8)
      constructor
      · intro h1; omega
      · intro h1; simp at h1; omega
  | succ k ih =>
    intro n
    by_cases h : n < 8
    · rw [dig_small h]
      have h1 : 1 ≤ 8 ^ (k + 1) := Nat.one_le_pow _ _ (by omega)
      have h2 : 8 ^ (k + 1 + 1) = 8 ^ (k + 1) * 8 := Nat.pow_succ _ _
      constructor <;> intro _ <;> omega
    · rw [dig_big (by omega)]
      have h2 : 8 ^ (k + 1 + 1) = 8 ^ (k + 1) * 8 := Nat.pow_succ _ _
      have := ih (n / 8)
      rw [h2, ← Nat.div_lt_iff_lt_mul (by omega), ← this]
      omega

theorem dig_lt {n w : Nat} (hw : 2 ≤ w) : dig n < w ↔ n < 8 ^ (w - 1) := by
  obtain ⟨k, rfl⟩ : ∃ k, w = k + 2 := ⟨w - 2, by omega⟩
  have := dig_le (k := k) n
  show dig n < k + 2 ↔ n < 8 ^ (k + 1)
  rw [← this]
  omega

theorem dig_le64 {n : Nat} (h : n < 9223372036854775808) : dig n ≤ 21 := (dig_le (k := 20) n).2 (by omega)

/-- What digits say. -/
def ov (l : List UInt8) : Nat := l.foldl (fun a b => 8 * a + (b.toNat - 48)) 0

theorem ov_one (l : List UInt8) (b : UInt8) : ov (l ++ [b]) = 8 * ov l + (b.toNat - 48) := by
  unfold ov
  rw [List.foldl_append]
  rfl

theorem ov_take {l : List UInt8} {i : Nat} (h : i < l.length) : ov (l.take (i + 1)) = 8 * ov (l.take i) + (l[i].toNat - 48) := by
  rw [← List.take_append_getElem h, ov_one]

theorem fold_ge (a : Nat) (l : List UInt8) : a ≤ l.foldl (fun a b => 8 * a + (b.toNat - 48)) a := by
  induction l generalizing a with
  | nil => exact Nat.le_refl _
  | cons b l ih =>
    rw [List.foldl_cons]
    have := ih (8 * a + (b.toNat - 48))
    omega

theorem ov_ge (l r : List UInt8) : ov l ≤ ov (l ++ r) := by
  unfold ov
  rw [List.foldl_append]
  exact fold_ge _ _

/-- An octal digit. -/
def isd (b : UInt8) : Prop := 48 ≤ b.toNat ∧ b.toNat ≤ 55

/-- A field whose digits say v. -/
structure Oct (bs : List UInt8) (v : Nat) : Prop where
  ex : ∃ ds tl, bs = ds ++ tl ∧ ds ≠ [] ∧ (∀ b ∈ ds, isd b) ∧ (∀ b ∈ tl, b.toNat = 0 ∨ b.toNat = 32) ∧ ov ds = v
  lt : v < 9223372036854775808

theorem Oct.first {bs : List UInt8} {v : Nat} (h : Oct bs v) : ∃ h0 : 0 < bs.length, isd bs[0] := by
  obtain ⟨ds, tl, rfl, hn, hd, _, _⟩ := h.ex
  obtain ⟨d, ds, rfl⟩ : ∃ d r, ds = d :: r := by
    cases ds with
    | nil => exact absurd rfl hn
    | cons d r => exact ⟨d, r, rfl⟩
  exact ⟨by simp, by simpa using hd d (List.mem_cons_self ..)⟩

/-- How far the digits go. -/
theorem Oct.digits {bs : List UInt8} {v i : Nat} (h : Oct bs v) (hi : i ≤ bs.length) (hd : ∀ j (hj : j < bs.length), j < i → isd bs[j]) (hs : ∀ hi : i < bs.length, ¬ isd bs[i]) :
    ov (bs.take i) = v ∧ ∀ j (hj : j < bs.length), i ≤ j → bs[j].toNat = 0 ∨ bs[j].toNat = 32 := by
  obtain ⟨ds, tl, rfl, hn, hds, htl, hv⟩ := h.ex
  have hil : i = ds.length := by
    rcases Nat.lt_trichotomy i ds.length with h1 | h1 | h1
    · exfalso
      refine hs (by rw [List.length_append]; omega) ?_
      rw [List.getElem_append_left h1]
      exact hds _ (List.getElem_mem _)
    · exact h1
    · exfalso
      have h2 : ds.length < (ds ++ tl).length := by omega
      have h3 := hd ds.length h2 h1
      rw [List.getElem_append_right (Nat.le_refl _)] at h3
      have h4 := htl _ (List.getElem_mem (l := tl) (n := ds.length - ds.length) (by rw [List.length_append] at h2; omega))
      unfold isd at h3
      omega
  subst hil
  rw [List.take_left]
  refine ⟨hv, fun j hj hle => ?_⟩
  rw [List.getElem_append_right hle]
  exact htl _ (List.getElem_mem _)

theorem Oct.room {bs : List UInt8} {v i : Nat} (h : Oct bs v) (hi : i < bs.length) (hd : ∀ j (hj : j < bs.length), j ≤ i → isd bs[j]) : 8 * ov (bs.take i) < 9223372036854775808 := by
  have hlt := h.lt
  obtain ⟨ds, tl, rfl, hn, hds, htl, hv⟩ := h.ex
  have hil : i < ds.length := by
    rcases Nat.lt_or_ge i ds.length with h1 | h1
    · exact h1
    · exfalso
      have h3 := hd i hi (Nat.le_refl _)
      rw [List.getElem_append_right h1] at h3
      have h4 := htl _ (List.getElem_mem (l := tl) (n := i - ds.length) (by rw [List.length_append] at hi; omega))
      unfold isd at h3
      omega
  have h5 := ov_take (l := ds) hil
  have h6 := ov_ge (ds.take (i + 1)) (ds.drop (i + 1))
  rw [List.take_append_drop, hv] at h6
  rw [List.take_append_of_le_length (by omega)]
  omega

/-- Digit j of m. -/
def dgt (n m j : Nat) : UInt8 := UInt8.ofNat (48 + n / 8 ^ (m - 1 - j) % 8)
theorem dgt_nat (n m j : Nat) : (dgt n m j).toNat = 48 + n / 8 ^ (m - 1 - j) % 8 := by
  unfold dgt
  rw [UInt8.toNat_ofNat_of_lt' (by have : n / 8 ^ (m - 1 - j) % 8 < 8 := Nat.mod_lt _ (by omega); simp only [UInt8.size]; omega)]
theorem dgt_isd (n m j : Nat) : isd (dgt n m j) := by
  unfold isd
  rw [dgt_nat]
  have : n / 8 ^ (m - 1 - j) % 8 < 8 := Nat.mod_lt _ (by omega)
  omega

theorem ov_dgt {n m : Nat} (h : n < 8 ^ m) : ∀ i, i ≤ m → ov ((List.range i).map (dgt n m)) = n / 8 ^ (m - i) := by
  intro i
  induction i with
  | zero =>
    intro _
    rw [Nat.sub_zero, Nat.div_eq_of_lt h]
    rfl
  | succ i ih =>
    intro hi
    rw [List.range_succ, List.map_append, List.map_cons, List.map_nil, ov_one, ih (by omega), dgt_nat]
    have e : m - i = (m - (i + 1)) + 1 := by omega
    have e2 : m - 1 - i = m - (i + 1) := by omega
    rw [e, Nat.pow_succ, e2, ← Nat.div_div_eq_div_mul]
    have := Nat.div_add_mod (n / 8 ^ (m - (i + 1))) 8
    omega

/-- A number as a field of w bytes. -/
def oct (n w : Nat) : List UInt8 := (List.range (w - 1)).map (dgt n (w - 1)) ++ [0]

theorem oct_len {n w : Nat} (hw : 1 ≤ w) : (oct n w).length = w := by
  unfold oct
  rw [List.length_append, List.length_map, List.length_range, List.length_singleton]
  omega

theorem oct_is {n w : Nat} (hw : 2 ≤ w) (h : n < 8 ^ (w - 1)) (h64 : n < 9223372036854775808) (tl : List UInt8) (htl : ∀ b ∈ tl, b.toNat = 0 ∨ b.toNat = 32) : Oct (oct n w ++ tl) n := by
  refine ⟨⟨(List.range (w - 1)).map (dgt n (w - 1)), [0] ++ tl, by unfold oct; rw [List.append_assoc], ?_, fun b hb => ?_, fun b hb => ?_, ?_⟩, h64⟩
  · intro h0
    have := congrArg List.length h0
    rw [List.length_map, List.length_range, List.length_nil] at this
    omega
  · obtain ⟨j, _, rfl⟩ := List.mem_map.1 hb
    exact dgt_isd _ _ _
  · rcases List.mem_append.1 hb with hb | hb
    · rw [List.mem_singleton.1 hb]; exact .inl rfl
    · exact htl b hb
  · rw [ov_dgt h _ (Nat.le_refl _), Nat.sub_self, Nat.pow_zero, Nat.div_one]

theorem oct_oct {n w : Nat} (hw : 2 ≤ w) (h : n < 8 ^ (w - 1)) (h64 : n < 9223372036854775808) : Oct (oct n w) n := by
  have := oct_is hw h h64 [] (by simp)
  rwa [List.append_nil] at this
end Go.Proofs.YtfpfdnckibaldaaDoor.O
