/- The long products of the reference, digit by digit to the base 1000, held against each other, answer as the products of whole numbers do. Condition: numbers from nought on below 2^63. -/
import Derived.Test.YtpdelappcgmadaaQB
namespace Go.Proofs.Ytpdelappcgmadaa.QT
open Go.RowKit Go.Proofs.Ytpdelappcgmadaa.PQuotaRatios Go.Proofs.Ytpdelappcgmadaa.QB Go.Proofs.YtpdelappcgmadaaW.PrintWords

/-- The number that digits to the base 1000 are, the least first. -/
def val : List Int → Int
  | [] => 0
  | x :: l => x + 1000 * val l

/-- Digits. -/
def Dig (l : List Int) : Prop := ∀ x ∈ l, 0 ≤ x ∧ x < 1000

theorem val_append (l r : List Int) : val (l ++ r) = val l + 1000 ^ l.length * val r := by
  induction l with
  | nil => simp [val]
  | cons x l ih => simp only [List.cons_append, val, ih, List.length_cons, Int.pow_succ]; grind

theorem val_set (l : List Int) (j : Nat) (v : Int) (h : j < l.length) : val (l.set j v) = val l + 1000 ^ j * (v - l.getD j 0) := by
  induction l generalizing j with
  | nil => simp at h
  | cons x l ih =>
    cases j with
    | zero => simp [val]; omega
    | succ j =>
      have := ih j (by simpa using h)
      simp only [List.set_cons_succ, val, this, Int.pow_succ, List.getD_cons_succ]
      grind

theorem val_nonneg {l : List Int} (h : ∀ x ∈ l, 0 ≤ x) : 0 ≤ val l := by
  induction l with
  | nil => simp [val]
  | cons x l ih =>
    have h1 := h x (by simp)
    have h2 := ih (fun y hy => h y (by simp [hy]))
    simp only [val]; omega

theorem pow_pos' (n : Nat) : (0 : Int) < 1000 ^ n := Int.pow_pos (by decide)

theorem val_lt {l : List Int} (h : Dig l) : val l < 1000 ^ l.length := by
  induction l with
  | nil => simp [val]
  | cons x l ih =>
    have h1 := h x (by simp)
    have h2 := ih (fun y hy => h y (by simp [hy]))
    simp only [val, List.length_cons, Int.pow_succ]; omega

theorem dig_nonneg {l : List Int} (h : Dig l) : 0 ≤ val l := val_nonneg fun x hx => (h x hx).1

/-! ## The digits of a number -/
theorem digits_l0 (m : Nat) : ∀ (k : Nat) (x : Int) (acc : List Int), 0 ≤ x → x < 1000 ^ m → x < 9223372036854775808 → m < k → acc.length + m < 17592186044416 →
    ∃ d, pannierref15_digits.l0 k x acc = some (acc ++ d) ∧ Dig d ∧ val d = x ∧ d.length ≤ m := by
  induction m with
  | zero =>
    intro k x acc h0 h1 _ hk _
    obtain ⟨k, rfl⟩ : ∃ n, k = n + 1 := ⟨k - 1, by omega⟩
    have : x = 0 := by simp at h1; omega
    subst this
    refine ⟨[], ?_, by simp [Dig], rfl, by simp⟩
    simp only [pannierref15_digits.l0]
    rw [if_neg (by omega), List.append_nil]
  | succ m ih =>
    intro k x acc h0 h1 h2 hk ha
    obtain ⟨k, rfl⟩ : ∃ n, k = n + 1 := ⟨k - 1, by omega⟩
    simp only [pannierref15_digits.l0]
    by_cases hx : x > 0
    · rw [if_pos hx, if_pos (by omega), Int.tdiv_eq_ediv_of_nonneg h0, Int.tmod_eq_emod_of_nonneg h0, wrap_in (by omega) (by omega)]
      rw [Int.pow_succ] at h1
      obtain ⟨d, hd, hD, hv, hl⟩ := ih k (x / 1000) (acc ++ [x % 1000]) (by omega) (by omega) (by omega) (by omega) (by simp; omega)
      refine ⟨x % 1000 :: d, ?_, ?_, ?_, by simp; omega⟩
      · rw [hd, List.append_assoc]; rfl
      · intro y hy
        rcases List.mem_cons.1 hy with rfl | hy
        · omega
        · exact hD y hy
      · simp only [val, hv]; omega
    · have : x = 0 := by omega
      subst this
      refine ⟨[], ?_, by simp [Dig], rfl, by simp⟩
      rw [if_neg (by omega), List.append_nil]

theorem digits_of {x : Int} (h0 : 0 ≤ x) (h : x < 9223372036854775808) (k : Nat) (hk : 7 < k) : ∃ d, pannierref15_digits.f k x = some d ∧ Dig d ∧ val d = x ∧ d.length ≤ 7 := by
  obtain ⟨d, h1, h2⟩ := digits_l0 7 k x [] h0 (Int.lt_trans h (by decide)) h hk (by simp)
  exact ⟨d, h1, h2⟩

/-! ## The long product -/
theorem rd_nat (l : List Int) (i : Nat) : rd l (i : Int) = l.getD i 0 := by simp [rd]

theorem getD_mem {l : List Int} {i : Nat} (h : i < l.length) : l.getD i 0 ∈ l := by
  rw [List.getD_eq_getElem?_getD, List.getElem?_eq_getElem h]; simp

theorem mem_set_or {l : List Int} {i : Nat} {v x : Int} (h : x ∈ l.set i v) : x ∈ l ∨ x = v := List.mem_or_eq_of_mem_set h

theorem val_drop (b : List Int) (j : Nat) (h : j < b.length) : val (b.drop j) = b.getD j 0 + 1000 * val (b.drop (j + 1)) := by
  rw [List.drop_eq_getElem_cons h]
  simp [val, h]

theorem prod_le {x y : Int} (hx : 0 ≤ x ∧ x < 1000) (hy : 0 ≤ y ∧ y < 1000) : 0 ≤ x * y ∧ x * y ≤ 998001 := by
  refine ⟨Int.mul_nonneg hx.1 hy.1, ?_⟩
  have := Int.mul_le_mul (show x ≤ 999 by omega) (show y ≤ 999 by omega) hy.1 (by decide)
  simpa using this

/-- Entries from nought on, at most so great. -/
def Ent (l : List Int) (T : Nat) : Prop := ∀ x ∈ l, 0 ≤ x ∧ x ≤ (T : Int) * 998001

section
variable {a b : List Int} (ha : Dig a) (hb : Dig b) (la : a.length ≤ 7) (lb : b.length ≤ 7)
include ha hb la lb

theorem times_l1 (i : Nat) (hi : i < a.length) (K : Nat) : ∀ (m : Nat) (out : List Int) (j T : Nat), j + m = b.length → out.length = a.length + b.length + 1 → Ent out T → T + m ≤ 100 →
    ∃ out', pannierref15_times.l1 (m + 1 + K) a b out i j = pannierref15_times.l0 K a b out' ((i + 1 : Nat) : Int) ∧ out'.length = out.length ∧ Ent out' (T + m) ∧
      val out' = val out + 1000 ^ (i + j) * (a.getD i 0 * val (b.drop j)) := by
  intro m
  induction m with
  | zero =>
    intro out j T hj hl hE hT
    refine ⟨out, ?_, rfl, hE, ?_⟩
    · rw [show 0 + 1 + K = K + 1 by omega]
      simp only [pannierref15_times.l1]
      rw [if_neg (by omega), wrap_in (by omega) (by omega)]
      rfl
    · rw [List.drop_eq_nil_of_le (by omega)]
      simp [val]
  | succ m ih =>
    intro out j T hj hl hE hT
    have hij : i + j < out.length := by omega
    have ho := hE _ (getD_mem hij)
    have hp := prod_le (ha _ (getD_mem hi)) (hb _ (getD_mem (show j < b.length by omega)))
    have hTb : (T : Int) * 998001 ≤ 99800100 := by omega
    have e1 : ((i : Int) + (j : Int)) = ((i + j : Nat) : Int) := by omega
    obtain ⟨out', h1, h2, h3, h4⟩ := ih (out.set (i + j) (out.getD (i + j) 0 + a.getD i 0 * b.getD j 0)) (j + 1) (T + 1) (by omega) (by simpa using hl)
      (by
        intro x hx
        rcases mem_set_or hx with hx | rfl
        · have := hE x hx; omega
        · omega) (by omega)
    refine ⟨out', ?_, by simpa using h2, ?_, ?_⟩
    · rw [← h1, show m + 1 + 1 + K = (m + 1 + K) + 1 by omega]
      conv => lhs; simp only [pannierref15_times.l1]
      rw [wrap_in (n := (i : Int) + j) (by omega) (by omega), e1, if_pos (by omega), if_pos (by omega), if_pos (by omega), if_pos (by omega), if_pos (by omega), if_pos (by omega)]
      rw [rd_nat, rd_nat, rd_nat, Int.toNat_natCast]
      rw [wrap_in (n := a.getD i 0 * b.getD j 0) (by omega) (by omega), wrap_in (n := out.getD (i + j) 0 + a.getD i 0 * b.getD j 0) (by omega) (by omega), wrap_in (n := (j : Int) + 1) (by omega) (by omega)]
      rfl
    · rw [show T + (m + 1) = T + 1 + m by omega]; exact h3
    · rw [h4, val_set _ _ _ hij, val_drop b j (by omega), show i + (j + 1) = (i + j) + 1 by omega, Int.pow_succ]
      generalize (1000 : Int) ^ (i + j) = P
      grind

theorem times_l0 (K : Nat) : ∀ (m : Nat) (out : List Int) (i T : Nat), i + m = a.length → out.length = a.length + b.length + 1 → Ent out T → T + m * b.length ≤ 100 →
    ∃ out', pannierref15_times.l0 (m * (b.length + 2) + 1 + K) a b out (i : Int) = pannierref15_times.l2 K out' 0 ∧ out'.length = out.length ∧ Ent out' (T + m * b.length) ∧
      val out' = val out + 1000 ^ i * (val (a.drop i) * val b) := by
  intro m
  induction m with
  | zero =>
    intro out i T hi hl hE hT
    refine ⟨out, ?_, rfl, by simpa using hE, ?_⟩
    · rw [show 0 * (b.length + 2) + 1 + K = K + 1 by omega]
      simp only [pannierref15_times.l0]
      rw [if_neg (by omega)]
    · rw [show a.drop i = [] from List.drop_eq_nil_of_le (by omega)]
      simp [val]
  | succ m ih =>
    intro out i T hi hl hE hT
    have hmb : (m + 1) * b.length = m * b.length + b.length := by rw [Nat.add_mul, Nat.one_mul]
    have hmc : (m + 1) * (b.length + 2) = m * (b.length + 2) + (b.length + 2) := by rw [Nat.add_mul, Nat.one_mul]
    obtain ⟨o1, h1, h2, h3, h4⟩ := times_l1 ha hb la lb i (by omega) (m * (b.length + 2) + 1 + K) b.length out 0 T (by omega) hl hE (by omega)
    obtain ⟨o2, g1, g2, g3, g4⟩ := ih o1 (i + 1) (T + b.length) (by omega) (by omega) h3 (by omega)
    refine ⟨o2, ?_, by omega, ?_, ?_⟩
    · rw [← g1, show (m + 1) * (b.length + 2) + 1 + K = (b.length + 1 + (m * (b.length + 2) + 1 + K)) + 1 by omega]
      conv => lhs; simp only [pannierref15_times.l0]
      rw [if_pos (by omega)]
      exact h1
    · rw [show T + (m + 1) * b.length = T + b.length + m * b.length by omega]; exact g3
    · rw [g4, h4, val_drop a i (by omega), List.drop_zero, Int.pow_succ, Nat.add_zero]
      generalize (1000 : Int) ^ i = P
      grind
end

theorem rd_mid (p r : List Int) (x : Int) : rd (p ++ x :: r) (p.length : Int) = x := by rw [rd_nat]; simp
theorem rd_mid1 (p r : List Int) (x y : Int) : rd (p ++ x :: y :: r) ((p.length : Int) + 1) = y := by
  rw [show ((p.length : Int) + 1) = ((p.length + 1 : Nat) : Int) by omega, rd_nat]; simp

theorem times_l2 (K : Nat) : ∀ (r p : List Int) (x : Int), (∀ y ∈ r, 0 ≤ y ∧ y ≤ 100000000) → 0 ≤ x → x ≤ 200000000 → Dig p → (p ++ x :: r).length ≤ 100 →
    ∃ p' z, pannierref15_times.l2 (r.length + 1 + K) (p ++ x :: r) (p.length : Int) = pannierref15_times.l3 K (p' ++ [z]) (((p' ++ [z]).length : Nat) : Int) ∧ Dig p' ∧ 0 ≤ z ∧ (p' ++ [z]).length = (p ++ x :: r).length ∧ val (p' ++ [z]) = val (p ++ x :: r) := by
  intro r
  induction r with
  | nil =>
    intro p x _ hx0 _ hp hl
    refine ⟨p, x, ?_, hp, hx0, rfl, rfl⟩
    rw [show ([] : List Int).length + 1 + K = K + 1 by simp; omega]
    simp only [pannierref15_times.l2]
    rw [wrap_in (n := (p.length : Int) + 1) (by omega) (by simp at hl; omega), if_neg (by simp)]
  | cons y r ih =>
    intro p x hr hx0 hx1 hp hl
    have hy := hr y (by simp)
    have hl' : p.length + (r.length + 1 + 1) ≤ 100 := by simpa using hl
    obtain ⟨p', z, h1, h2, h3, h4, h5⟩ := ih (p ++ [x % 1000]) (y + x / 1000) (fun w hw => hr w (by simp [hw])) (by omega) (by omega)
      (by intro w hw
          rcases List.mem_append.1 hw with hw | hw
          · exact hp w hw
          · simp at hw; subst hw; omega) (by simp; omega)
    refine ⟨p', z, ?_, h2, h3, ?_, ?_⟩
    · rw [← h1, show (y :: r).length + 1 + K = (r.length + 1 + K) + 1 by simp; omega]
      conv => lhs; simp only [pannierref15_times.l2]
      have hlen : ((p ++ x :: y :: r).length : Int) = p.length + (r.length + 2) := by simp; omega
      rw [wrap_in (n := (p.length : Int) + 1) (by omega) (by omega), if_pos (by omega), if_pos (by omega), if_pos (by omega), if_pos (by omega), Option.bind_some, rd_mid, rd_mid1]
      rw [Int.tdiv_eq_ediv_of_nonneg hx0, wrap_in (n := x / 1000) (by omega) (by omega), wrap_in (n := y + x / 1000) (by omega) (by omega)]
      have e1 : ((p.length : Int) + 1).toNat = p.length + 1 := by omega
      have e2 : (p ++ x :: y :: r).set (p.length + 1) (y + x / 1000) = p ++ x :: (y + x / 1000) :: r := by
        rw [List.set_append_right _ _ (by omega)]; simp
      rw [e1, e2, rd_mid, Int.tmod_eq_emod_of_nonneg hx0, Int.toNat_natCast]
      have e3 : (p ++ x :: (y + x / 1000) :: r).set p.length (x % 1000) = p ++ [x % 1000] ++ (y + x / 1000) :: r := by
        rw [List.set_append_right _ _ (by omega)]; simp
      rw [e3]
      have e4 : ((p ++ [x % 1000]).length : Int) = (p.length : Int) + 1 := by simp
      rw [e4]
    · rw [h4]; simp
    · rw [h5, val_append, val_append, val_append]
      simp only [val, List.length_append, List.length_cons, List.length_nil, Int.pow_succ, Nat.zero_add]
      have : x = x / 1000 * 1000 + x % 1000 := by omega
      generalize (1000 : Int) ^ p.length = P
      grind

theorem val_take_succ (l : List Int) (n : Nat) (h : n < l.length) : val (l.take (n + 1)) = val (l.take n) + 1000 ^ n * l.getD n 0 := by
  rw [List.take_succ_eq_append_getElem h, val_append]
  simp [val, h, Nat.le_of_lt h, Nat.min_eq_left]

theorem times_l3 : ∀ (n K : Nat) (l : List Int), n ≤ l.length → l.length ≤ 100 → n < K →
    ∃ r, pannierref15_times.l3 K l (n : Int) = some (l.take r) ∧ r ≤ n ∧ val (l.take r) = val (l.take n) ∧ (r = 0 ∨ l.getD (r - 1) 0 ≠ 0) := by
  intro n
  induction n with
  | zero =>
    intro K l _ _ hK
    obtain ⟨K, rfl⟩ : ∃ n, K = n + 1 := ⟨K - 1, by omega⟩
    refine ⟨0, ?_, by omega, rfl, .inl rfl⟩
    simp only [pannierref15_times.l3]
    rw [if_neg (by omega), if_pos (by omega), if_pos (by omega)]
    rfl
  | succ n ih =>
    intro K l hn hl hK
    obtain ⟨K, rfl⟩ : ∃ n, K = n + 1 := ⟨K - 1, by omega⟩
    have e1 : ((n + 1 : Nat) : Int) - 1 = (n : Int) := by omega
    simp only [pannierref15_times.l3]
    rw [e1, wrap_in (n := (n : Int)) (by omega) (by omega), if_pos (by omega), if_pos (by omega), if_pos (by omega), rd_nat]
    by_cases h0 : l.getD n 0 = 0
    · rw [if_pos h0]
      obtain ⟨r, h1, h2, h3, h4⟩ := ih K l (by omega) hl (by omega)
      refine ⟨r, h1, by omega, ?_, h4⟩
      rw [h3, val_take_succ l n (by omega), h0]
      simp
    · rw [if_neg h0, if_pos (by omega), if_pos (by omega)]
      exact ⟨n + 1, by rw [Int.toNat_natCast], Nat.le_refl _, rfl, .inr (by simpa using h0)⟩

/-- Digits without noughts at the end. -/
def Norm (r : List Int) : Prop := Dig r ∧ (r = [] ∨ r.getD (r.length - 1) 0 ≠ 0) ∧ r.length ≤ 50

theorem times_of {a b : List Int} (ha : Dig a) (hb : Dig b) (la : a.length ≤ 7) (lb : b.length ≤ 7) : ∃ K r, pannierref15_times.f K a b = some r ∧ Norm r ∧ val r = val a * val b := by
  have hab : a.length * b.length ≤ 49 := Nat.mul_le_mul la lb
  obtain ⟨o1, h1, h2, h3, h4⟩ := times_l0 ha hb la lb (a.length + b.length + 1 + 200) a.length (List.replicate (a.length + b.length + 1) 0) 0 0 (by omega) (by simp) (by intro x hx; simp at hx; omega) (by omega)
  have hv1 : val o1 = val a * val b := by
    have e0 : ∀ n, val (List.replicate n 0) = 0 := by
      intro n
      induction n with
      | zero => rfl
      | succ n ih => simp [List.replicate_succ, val, ih]
    rw [h4, e0]; simp
  rw [List.length_replicate] at h2
  match o1, h2 with
  | x :: r, h2 =>
    have hr : ∀ y ∈ x :: r, 0 ≤ y ∧ y ≤ 100000000 := by
      intro y hy
      have := h3 y hy
      have hc : ((0 + a.length * b.length : Nat) : Int) ≤ 49 := by omega
      omega
    have hx := hr x (by simp)
    have hl : r.length = a.length + b.length := by simpa using h2
    obtain ⟨p', z, g1, g2, g3, g4, g5⟩ := times_l2 200 r [] x (fun y hy => hr y (by simp [hy])) hx.1 (by omega) (by simp [Dig]) (by simp; omega)
    simp only [List.nil_append, List.length_nil] at g1 g4 g5
    have hp' : p'.length = a.length + b.length := by simp at g4; omega
    have hz : z = 0 := by
      have b1 := val_lt ha
      have b2 := val_lt hb
      have n1 := dig_nonneg ha
      have n2 := dig_nonneg hb
      have n3 := dig_nonneg g2
      have q1 : val a * val b < 1000 ^ a.length * 1000 ^ b.length := by
        by_cases hb0 : val b = 0
        · rw [hb0]; have := Int.mul_pos (pow_pos' a.length) (pow_pos' b.length); simpa using this
        · calc val a * val b < 1000 ^ a.length * val b := Int.mul_lt_mul_of_pos_right b1 (by omega)
            _ ≤ 1000 ^ a.length * 1000 ^ b.length := Int.mul_le_mul_of_nonneg_left (by omega) (by have := pow_pos' a.length; omega)
      rw [← Int.pow_add] at q1
      rw [val_append, hv1] at g5
      simp only [val, Int.mul_zero, Int.add_zero, hp'] at g5
      have hpos := pow_pos' (a.length + b.length)
      generalize (1000 : Int) ^ (a.length + b.length) = P at *
      by_cases hz0 : z = 0
      · exact hz0
      · exfalso
        have : P * 1 ≤ P * z := Int.mul_le_mul_of_nonneg_left (by omega) (by omega)
        omega
    subst hz
    obtain ⟨n, k1, k2, k3, k4⟩ := times_l3 (p' ++ [0]).length 200 (p' ++ [0]) (Nat.le_refl _) (by simp; omega) (by simp; omega)
    refine ⟨a.length * (b.length + 2) + 1 + (a.length + b.length + 1 + 200), (p' ++ [0]).take n, ?_, ⟨?_, ?_, ?_⟩, ?_⟩
    · unfold pannierref15_times.f
      rw [wrap_in (n := (a.length : Int) + b.length) (by omega) (by omega), wrap_in (n := (a.length : Int) + b.length + 1) (by omega) (by omega), if_pos (by omega), if_pos (by omega)]
      have e1 : ((a.length : Int) + b.length + 1).toNat = a.length + b.length + 1 := by omega
      rw [e1]
      have h1' := h1
      rw [show ((0 : Nat) : Int) = 0 from rfl] at h1'
      rw [h1', show a.length + b.length + 1 + 200 = r.length + 1 + 200 by omega]
      have g1' := g1
      rw [show ((0 : Nat) : Int) = 0 from rfl] at g1'
      rw [g1']
      exact k1
    · intro w hw
      rcases List.mem_append.1 (List.mem_of_mem_take hw) with hw | hw
      · exact g2 w hw
      · simp at hw; subst hw; omega
    · rcases k4 with rfl | k4
      · left; simp
      · by_cases hn : n = 0
        · left; subst hn; simp
        right
        have hlen : ((p' ++ [(0 : Int)]).take n).length = n := by rw [List.length_take]; omega
        rw [hlen]
        rw [List.getD_eq_getElem?_getD, List.getElem?_take, if_pos (by omega), ← List.getD_eq_getElem?_getD]
        exact k4
    · rw [List.length_take]; simp; omega
    · rw [k3, List.take_length, g5, hv1]

/-! ## Which is greater -/
theorem norm_low {r : List Int} (h : Norm r) (hne : r ≠ []) : 1000 ^ (r.length - 1) ≤ val r := by
  obtain ⟨hd, hn, _⟩ := h
  have hl : 0 < r.length := List.length_pos_iff.2 hne
  have e := val_take_succ r (r.length - 1) (by omega)
  rw [show r.length - 1 + 1 = r.length by omega, List.take_length] at e
  have h1 : 0 ≤ val (r.take (r.length - 1)) := val_nonneg fun x hx => (hd x (List.mem_of_mem_take hx)).1
  have h2 := hd _ (getD_mem (show r.length - 1 < r.length by omega))
  have h3 : r.getD (r.length - 1) 0 ≠ 0 := by rcases hn with h | h; exact absurd h hne; exact h
  have hp := pow_pos' (r.length - 1)
  generalize (1000 : Int) ^ (r.length - 1) = P at *
  have : P * 1 ≤ P * r.getD (r.length - 1) 0 := Int.mul_le_mul_of_nonneg_left (by omega) (by omega)
  omega

theorem pow_le' {a b : Nat} (h : a ≤ b) : (1000 : Int) ^ a ≤ 1000 ^ b := by
  obtain ⟨c, rfl⟩ := Nat.exists_eq_add_of_le h
  rw [Int.pow_add]
  have h1 := pow_pos' a
  have h2 := pow_pos' c
  have : (1000 : Int) ^ a * 1 ≤ 1000 ^ a * 1000 ^ c := Int.mul_le_mul_of_nonneg_left (by omega) (by omega)
  omega

theorem len_gt {x y : List Int} (hx : Norm x) (hy : Norm y) (h : y.length < x.length) : val y < val x := by
  have h1 := val_lt hy.1
  have h2 := norm_low hx (by intro e; rw [e] at h; simp at h)
  have h3 : (1000 : Int) ^ y.length ≤ 1000 ^ (x.length - 1) := pow_le' (by omega)
  omega

theorem more_l0 {x y : List Int} (hx : Dig x) (hy : Dig y) (hl : x.length = y.length) (hb : x.length ≤ 50) : ∀ (m K : Nat), m ≤ x.length → m < K →
    pannierref15_More.l0 K x y ((m : Int) - 1) = some (decide (val (y.take m) < val (x.take m))) := by
  intro m
  induction m with
  | zero =>
    intro K _ hK
    obtain ⟨K, rfl⟩ : ∃ n, K = n + 1 := ⟨K - 1, by omega⟩
    simp only [pannierref15_More.l0]
    rw [if_neg (by omega)]
    simp [val]
  | succ m ih =>
    intro K hm hK
    obtain ⟨K, rfl⟩ : ∃ n, K = n + 1 := ⟨K - 1, by omega⟩
    have e1 : ((m + 1 : Nat) : Int) - 1 = (m : Int) := by omega
    simp only [pannierref15_More.l0]
    rw [e1, if_pos (by omega), if_pos (by omega), if_pos (by omega), if_pos (by omega), rd_nat, rd_nat, val_take_succ x m (by omega), val_take_succ y m (by omega)]
    have bx := val_lt (l := x.take m) (fun z hz => hx z (List.mem_of_mem_take hz))
    have by_ := val_lt (l := y.take m) (fun z hz => hy z (List.mem_of_mem_take hz))
    have nx := dig_nonneg (l := x.take m) (fun z hz => hx z (List.mem_of_mem_take hz))
    have ny := dig_nonneg (l := y.take m) (fun z hz => hy z (List.mem_of_mem_take hz))
    rw [List.length_take, Nat.min_eq_left (by omega)] at bx by_
    by_cases he : x.getD m 0 = y.getD m 0
    · rw [if_pos he, wrap_in (n := (m : Int) - 1) (by omega) (by omega), ih K (by omega) (by omega), he]
      congr 1
      apply decide_eq_decide.2
      omega
    · rw [if_neg he]
      congr 1
      apply decide_eq_decide.2
      have hp := pow_pos' m
      generalize (1000 : Int) ^ m = P at *
      generalize x.getD m 0 = u at *
      generalize y.getD m 0 = v at *
      constructor
      · intro h
        have : P * (v + 1) ≤ P * u := Int.mul_le_mul_of_nonneg_left (by omega) (by omega)
        rw [Int.mul_add, Int.mul_one] at this
        omega
      · intro h
        by_cases huv : u > v
        · exact huv
        · exfalso
          have : P * (u + 1) ≤ P * v := Int.mul_le_mul_of_nonneg_left (by omega) (by omega)
          rw [Int.mul_add, Int.mul_one] at this
          omega

theorem more_of {a b c d : Int} (a0 : 0 ≤ a) (a1 : a < 9223372036854775808) (b0 : 0 ≤ b) (b1 : b < 9223372036854775808) (c0 : 0 ≤ c) (c1 : c < 9223372036854775808) (d0 : 0 ≤ d) (d1 : d < 9223372036854775808) :
    ∃ K, pannierref15_More.f K a b c d = some (decide (c * d < a * b)) := by
  obtain ⟨da, ea, ga, va, la⟩ := digits_of a0 a1 8 (by omega)
  obtain ⟨db, eb, gb, vb, lb⟩ := digits_of b0 b1 8 (by omega)
  obtain ⟨dc, ec, gc, vc, lc⟩ := digits_of c0 c1 8 (by omega)
  obtain ⟨dd, ed, gd, vd, ld⟩ := digits_of d0 d1 8 (by omega)
  obtain ⟨K1, x, hx, nx, vx⟩ := times_of ga gb la lb
  obtain ⟨K2, y, hy, ny, vy⟩ := times_of gc gd lc ld
  refine ⟨K1 + K2 + 100, ?_⟩
  unfold pannierref15_More.f
  rw [at_rounds (pannierref15_digits.mono a) (k := 8) (by omega) ea, at_rounds (pannierref15_digits.mono b) (k := 8) (by omega) eb, Option.bind_some, Option.bind_some,
    at_rounds (pannierref15_times.mono _ _) (k := K1) (by omega) hx, Option.bind_some,
    at_rounds (pannierref15_digits.mono c) (k := 8) (by omega) ec, at_rounds (pannierref15_digits.mono d) (k := 8) (by omega) ed, Option.bind_some, Option.bind_some,
    at_rounds (pannierref15_times.mono _ _) (k := K2) (by omega) hy, Option.bind_some]
  rw [va, vb] at vx
  rw [vc, vd] at vy
  rw [← vx, ← vy]
  have lx := nx.2.2
  have ly := ny.2.2
  by_cases hl : (x.length : Int) = (y.length : Int)
  · rw [if_pos hl, wrap_in (n := (x.length : Int) - 1) (by omega) (by omega), more_l0 nx.1 ny.1 (by omega) lx x.length _ (Nat.le_refl _) (by omega), List.take_length, List.take_of_length_le (by omega)]
  · rw [if_neg hl]
    congr 1
    apply decide_eq_decide.2
    by_cases hg : y.length < x.length
    · exact ⟨fun _ => len_gt nx ny hg, fun _ => by omega⟩
    · have := len_gt ny nx (by omega)
      omega
end Go.Proofs.Ytpdelappcgmadaa.QT
