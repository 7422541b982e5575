/- A number in decimal text and back: what is written is read as the number that it was. No condition. -/
import Derived.Lib.ParseIntB
import Derived.Lib.ItoaNum
set_option linter.unusedSimpArgs false
set_option linter.unusedVariables false
namespace Go.Proofs.YtfpfdnckibaldaaDoor.D
open Go Go.Lib

theorem dec_big {u : Nat} (h : 10 ≤ u) : decDigits u = decDigits (u / 10) ++ [UInt8.ofNat (48 + u % 10)] := by
  rw [decDigits, dif_neg (by omega)]
theorem dig_nat {d : Nat} (h : d < 10) : (UInt8.ofNat (48 + d)).toNat = 48 + d := by
  rw [UInt8.toNat_ofNat']; omega

theorem pm_app {M : Nat} {c : UInt8} (h1 : 48 ≤ c.toNat) (h2 : c.toNat ≤ 57) : ∀ (l : List UInt8) (acc a : Nat), parseUintM M acc l = .ok a → a < 1844674407370955162 → a * 10 + (c.toNat - 48) ≤ M →
    parseUintM M acc (l ++ [c]) = .ok (a * 10 + (c.toNat - 48))
  | [], acc, a, h, ha, hM => by
    simp only [parseUintM, NumEnd.ok.injEq] at h
    subst h
    simp only [List.nil_append, parseUintM]
    rw [if_pos ⟨h1, h2⟩, if_neg (by omega), if_neg (by omega)]
  | b :: r, acc, a, h, ha, hM => by
    simp only [parseUintM] at h
    simp only [List.cons_append, parseUintM]
    split at h
    · rename_i hb
      rw [if_pos hb]
      split at h
      · cases h
      · rename_i hc
        rw [if_neg hc]
        split at h
        · cases h
        · rename_i hd
          rw [if_neg hd]
          exact pm_app h1 h2 r _ a h ha hM
    · cases h

theorem pm_dec (u : Nat) : u ≤ 18446744073709551615 → parseUintM (2 ^ 64 - 1) 0 (decDigits u) = .ok u := by
  induction u using Nat.strongRecOn with
  | _ u ih =>
    intro hu
    have hM : (2 : Nat) ^ 64 - 1 = 18446744073709551615 := by decide
    by_cases h : u < 10
    · rw [decDigits_one h]
      have hd := dig_nat h
      simp only [parseUintM]
      rw [if_pos (by omega), if_neg (by omega), if_neg (by omega)]
      congr 1
      omega
    · rw [dec_big (by omega)]
      have hd := dig_nat (d := u % 10) (by omega)
      have h1 := pm_app (M := 2 ^ 64 - 1) (c := UInt8.ofNat (48 + u % 10)) (by omega) (by omega) (decDigits (u / 10)) 0 (u / 10) (ih (u / 10) (by omega) (by omega)) (by omega) (by omega)
      rw [h1]
      congr 1
      omega

theorem dec_ne (u : Nat) : decDigits u ≠ [] := by
  intro h
  have := decDigits_length u
  rw [h] at this
  have h2 := nDigits_pos u
  simp at this
  omega

theorem dec_head (u : Nat) : ∃ c r, decDigits u = c :: r ∧ 48 ≤ c.toNat ∧ c.toNat ≤ 57 := by
  induction u using Nat.strongRecOn with
  | _ u ih =>
    by_cases h : u < 10
    · exact ⟨_, [], decDigits_one h, by rw [dig_nat h]; omega, by rw [dig_nat h]; omega⟩
    · obtain ⟨c, r, e, h1, h2⟩ := ih (u / 10) (by omega)
      exact ⟨c, r ++ [UInt8.ofNat (48 + u % 10)], by rw [dec_big (by omega), e]; rfl, h1, h2⟩

theorem parse_itoa (n : Int) (h0 : -9223372036854775808 ≤ n) (h1 : n ≤ 9223372036854775807) : parseIntB 64 (itoa n) = .ok n := by
  have hM : (2 : Nat) ^ (64 - 1) = 9223372036854775808 := by decide
  unfold itoa
  split
  · rename_i hn
    have hp : parseUintB 64 (decDigits n.natAbs) = .ok n.natAbs := by
      unfold parseUintB
      rw [if_neg (dec_ne _)]
      exact pm_dec _ (by omega)
    have hc : (45 : UInt8).toNat = 45 := by decide
    simp only [parseIntB, hc]
    rw [if_pos (.inr trivial), hp]
    dsimp only
    rw [if_neg (by simp), if_neg (by rw [hM]; omega), if_pos trivial]
    congr 1
    omega
  · rename_i hn
    obtain ⟨c, r, e, hc1, hc2⟩ := dec_head n.toNat
    have hp : parseUintB 64 (decDigits n.toNat) = .ok n.toNat := by
      unfold parseUintB
      rw [if_neg (dec_ne _)]
      exact pm_dec _ (by omega)
    rw [e] at hp ⊢
    simp only [parseIntB]
    rw [if_neg (by omega), hp]
    dsimp only
    rw [if_neg (by rw [hM]; omega), if_neg (by omega), if_neg (by omega)]
    congr 1
    omega

theorem itoa_len (n : Int) (h0 : -9223372036854775808 ≤ n) (h1 : n ≤ 9223372036854775807) : (itoa n).length ≤ 21 := by
  have hk : ∀ k u, u < 10 ^ (k + 1) → nDigits u ≤ k + 1 := by
    intro k
    induction k with
    | zero => intro u hu; rw [nDigits_small (by omega)]; omega
    | succ k ih =>
      intro u hu
      by_cases h : u < 10
      · rw [nDigits_small h]; omega
      · rw [nDigits, dif_neg h]
        have := ih (u / 10) (by rw [Nat.div_lt_iff_lt_mul (by omega)]; rw [Nat.pow_succ] at hu; exact hu)
        omega
  unfold itoa
  split
  · rw [List.length_cons, decDigits_length]
    have := hk 19 n.natAbs (by have : (10:Nat) ^ (19 + 1) = 100000000000000000000 := by decide
                               omega)
    omega
  · rw [decDigits_length]
    have := hk 19 n.toNat (by have : (10:Nat) ^ (19 + 1) = 100000000000000000000 := by decide
                              omega)
    omega
end Go.Proofs.YtfpfdnckibaldaaDoor.D
