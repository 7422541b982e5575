/- How many octal digits a number has, and whether it fits; a number as a field. No condition but that it is one. -/
import Derived.Test.YtfpfdnckibaldaaDoorOc
import Derived.Test.YtfpfdnckibaldaaDoorLib2
import Derived.Test.YtfpfdnckibaldaaDoorChecked
set_option linter.unusedSimpArgs false
set_option linter.unusedVariables false
namespace Go.Proofs.YtfpfdnckibaldaaDoor.O
open Go.RowKit Go.Proofs.YtfpfdnckibaldaaDoor.M Go.Proofs.YtfpfdnckibaldaaDoor.O

set_option maxHeartbeats 1000000 in
theorem digits_ (w : World) (n : Nat) (hn : n < 9223372036854775808) : Calls Tryd.prog 18 #[.int .i64 n] w fun e w' => e = .returned (.int .i64 (dig n : Nat)) ∧ w' = w := by
  go_enter Tryd.func18, Tryd.ntmps18
  go_wp2
  go_loopw [0, 3] (fun x0 x3 wr => ∃ m k : Nat, x0 = .int .i64 m ∧ x3 = .int .i64 k ∧ Hid (k + dig m = dig n + 1) ∧ m ≤ n ∧ k ≤ 21 ∧ wr = w) (fun x0 _ _ => (intOf x0).toNat)
  case atStart => exact ⟨n, 1, by go_num, by go_num, by show 1 + dig n = dig n + 1; omega, Nat.le_refl _, by omega, rfl⟩
  case round =>
    obtain ⟨m, k, rfl, rfl, hk, hm, hk21, rfl⟩ := hrel
    have hd21 := dig_le64 hn
    have hdp := dig_pos (m / 8)
    by_cases h8 : 8 ≤ m
    · have f1 : decide ((m : Int) ≥ 8) = true := decide_eq_true (by omega)
      have hb := dig_big h8
      have hq : (m : Int).tdiv 8 = ((m / 8 : Nat) : Int) := by rw [Int.tdiv_eq_ediv_of_nonneg (by omega)]; omega
      replace hb := hd_ hb
      go_wp2
      go_roundw
      case rel => exact ⟨m / 8, k + 1, by go_num, by go_num, by have h1 : k + dig m = dig n + 1 := hk; have h2 := hb.out; show k + 1 + dig (m / 8) = dig n + 1; omega, by omega, by have h1 : k + dig m = dig n + 1 := hk; have h2 := hb.out; omega, trivial⟩
      case measure => simp [intOf]; omega
    · have f1 : decide ((m : Int) ≥ 8) = false := decide_eq_false (by omega)
      have hb := dig_small (n := m) (by omega)
      replace hb := hd_ hb
      go_wp2
      go_ret
      refine ⟨?_, rfl⟩
      have h1 : k + dig m = dig n + 1 := hk
      have h2 := hb.out
      rw [show k = dig n by omega]
      rfl

/-- May a number stand in so many bytes? -/
def fitb (n w : Int) : Bool := decide (0 ≤ n ∧ 2 ≤ w ∧ (dig n.toNat : Int) < w)

set_option maxHeartbeats 1000000 in
theorem fits_ (w : World) (n v : Int) (hn : n < 9223372036854775808) : Calls Tryd.prog 10 #[.int .i64 n, .int .i64 v] w fun e w' => e = .returned (.bool (fitb n v)) ∧ w' = w := by
  by_cases h0 : 0 ≤ n
  · have f0 : decide (n ≥ 0) = true := decide_eq_true h0
    obtain ⟨m, rfl⟩ := Int.eq_ofNat_of_zero_le h0
    by_cases h1 : 2 ≤ v
    · have f1 : decide (v ≥ 2) = true := decide_eq_true h1
      have hx : fitb (m : Int) v = decide ((dig m : Int) < v) := by
        unfold fitb
        rw [Int.toNat_natCast]
        simp [h1]
      go_enter Tryd.func10, Tryd.ntmps10
      go_wp2_with (first | (go_at_call 18; (with_reducible refine (digits_ _ m (by omega)).mono ?_); rintro e w3 ⟨rfl, rfl⟩))
      go_ret
      first | exact ⟨rfl, rfl⟩ | exact ⟨by rw [hx]; rfl, rfl⟩
    · have f1 : decide (v ≥ 2) = false := decide_eq_false h1
      have hx : fitb (m : Int) v = false := by
        unfold fitb
        simp [h1]
      go_enter Tryd.func10, Tryd.ntmps10
      go_wp2
      go_ret
      first | exact ⟨rfl, rfl⟩ | exact ⟨by rw [hx]; rfl, rfl⟩
  · have f0 : decide (n ≥ 0) = false := decide_eq_false h0
    have hx : fitb n v = false := by
      unfold fitb
      simp [h0]
    go_enter Tryd.func10, Tryd.ntmps10
    go_wp2
    go_ret
    first | exact ⟨rfl, rfl⟩ | exact ⟨by rw [hx]; rfl, rfl⟩

theorem fitb_nat {n w : Nat} : fitb (n : Int) (w : Int) = true ↔ 2 ≤ w ∧ dig n < w := by
  unfold fitb
  rw [Int.toNat_natCast, decide_eq_true_iff]
  omega

theorem und26 : Tryd.prog.underlying 26 = some (.slice 5) := by kernel_rfl
theorem und5 : Tryd.prog.underlying 5 = some (.int .u8) := by kernel_rfl
theorem und9 : Tryd.prog.underlying 9 = some .string := by kernel_rfl
theorem one5 : OneTy Tryd.prog 5 := .of (by kernel_rfl)
theorem one3 : OneTy Tryd.prog 3 := .of (by kernel_rfl)
theorem one2 : OneTy Tryd.prog 2 := .of (by kernel_rfl)
theorem one9 : OneTy Tryd.prog 9 := .of (by kernel_rfl)
theorem one26 : OneTy Tryd.prog 26 := .of (by kernel_rfl)
theorem size5 : (Tryd.prog.info? 5).map (·.size) = some 1 := by kernel_rfl
theorem slb : SlTy Tryd.prog 26 5 1 1 (.int .u8 0) := ⟨by kernel_rfl, by kernel_rfl⟩

/-- A field behind so many digits, from its end on. -/
def offield (n v j : Nat) : Nat → UInt8 := fun i => if v - 1 - j ≤ i ∧ i < v - 1 then dgt n (v - 1) i else 0

theorem offield_end {n v : Nat} (hv : 1 ≤ v) : row v (offield n v (v - 1)) = ((oct n v).map u8).toArray := by
  symm
  refine row_ext (by simp [oct_len hv]) (fun i hi => ?_)
  rw [List.getElem?_toArray, List.getElem?_map]
  unfold oct offield
  by_cases h : i < v - 1
  · rw [List.getElem?_append_left (by simpa using h), List.getElem?_map, List.getElem?_range h, if_pos (by omega)]
    rfl
  · rw [List.getElem?_append_right (by simpa using h), if_neg (by omega)]
    obtain rfl : i = v - 1 := by omega
    simp

theorem offield_step {n v j : Nat} (hj : j + 2 ≤ v) : up1 (offield n v j) (v - 2 - j) (dgt n (v - 1) (v - 2 - j)) = offield n v (j + 1) := by
  funext i
  unfold up1 offield
  by_cases h : i = v - 2 - j
  · subst h
    rw [if_pos rfl, if_pos (by omega)]
  · rw [if_neg h]
    by_cases h2 : v - 1 - j ≤ i ∧ i < v - 1
    · rw [if_pos h2, if_pos (by omega)]
    · rw [if_neg h2, if_neg (by omega)]

theorem madeCells_one (v : Value) (n : Nat) : madeCells #[v] n = tab n fun _ => v := by
  refine tab_ext (by rw [size_madeCells]) (fun i hi => ?_)
  simp [madeCells, hi, Nat.mod_one]

theorem dgt_val {n v j : Nat} (hj : j + 2 ≤ v) : Value.int .u8 (48 + ((n / 8 ^ j % 8 : Nat) : Int)) = u8 (dgt n (v - 1) (v - 2 - j)) := by
  unfold u8
  rw [dgt_nat, show v - 1 - 1 - (v - 2 - j) = j by omega]
  congr 1

section
variable {w0 : Base} {w : World} {fr l : List Blk}
set_option maxHeartbeats 2000000 in
theorem format_bad (hM : Mem w0 w fr l) (n v : Int) (hn : n < 9223372036854775808) (h1 : 2 ≤ v) (h2 : v ≤ 24) (hb : fitb n v = false) : Calls Tryd.prog 8 #[.int .i64 n, .int .i64 v] w fun e w' => e = .returned (.tuple #[.slice none 0 0, .int .i64 20]) ∧ Mem w0 w' fr l := by
  have f0 : decide (v < 2) = false := decide_eq_false (by omega)
  have f1 : decide (v > 24) = false := decide_eq_false (by omega)
  go_enter Tryd.func8, Tryd.ntmps8
  go_wp2_with (first | (go_at_call 10; (with_reducible refine (fits_ _ n v hn).mono ?_); rintro e w3 ⟨rfl, rfl⟩))
  go_ret2
  exact ⟨rfl, hM⟩

set_option maxHeartbeats 2000000 in
theorem format_ok (hM : Mem w0 w fr l) (n v : Nat) (hn : n < 9223372036854775808) (h1 : 2 ≤ v) (h2 : v ≤ 24) (hb : dig n < v) {nn vv : Int} (hnn : nn = (n : Int)) (hvv : vv = (v : Int)) :
    Calls Tryd.prog 8 #[.int .i64 nn, .int .i64 vv] w fun e w' => ∃ g, e = .returned (.tuple #[.slice (some ⟨g, 0, none⟩) v v, .int .i64 0]) ∧ Mem w0 w' fr (⟨g, ((oct n v).map u8).toArray, 5, (0, 0)⟩ :: l) := by
  subst hnn hvv
  have f0 : decide ((v : Int) < 2) = false := decide_eq_false (by omega)
  have f1 : decide ((v : Int) > 24) = false := decide_eq_false (by omega)
  have hfit : fitb (n : Int) (v : Int) = true := fitb_nat.2 ⟨h1, hb⟩
  have hw2 : IntKind.i64.wrap ((v : Int) - 2) = (v : Int) - 2 := IntWalk.i64_in _ (by omega)
  go_enter Tryd.func8, Tryd.ntmps8
  go_wp2_with (first | (go_at_call 10; (with_reducible refine (fits_ _ (n : Nat) (v : Nat) (by omega)).mono ?_); rintro e w3 ⟨rfl, rfl⟩) | ((with_reducible refine wpl ?_); apply al_make (hM := hM) (n := v) (ht := slb); rfl; (first | exact want_none rfl | exact want_some rfl rfl rfl rfl); rfl; rfl; omega; omega; intro gz w1 hM1; clear hM; have hM := hM1; clear hM1; simp only [Act.put, List.setIfInBounds_toArray, List.set_cons_zero, List.set_cons_succ]))
  have e0 : madeCells (Value.int .u8 0).cells (v * 1) = row v (offield n v 0) := by
    rw [show (Value.int .u8 0).cells = #[Value.int .u8 0] from rfl, madeCells_one, Nat.mul_one]
    refine tab_congr (fun i hi => ?_)
    unfold offield
    rw [if_neg (by omega)]
    rfl
  rw [e0] at hM
  clear e0 hw2
  go_loopw [0, 7] (fun x0 x7 wr => ∃ j : Nat, j + 1 ≤ v ∧ x0 = .int .i64 ((n / 8 ^ j : Nat) : Int) ∧ x7 = .int .i64 ((v : Int) - 2 - j) ∧ Mem w0 wr fr (⟨gz, row v (offield n v j), 5, (0, 0)⟩ :: l)) (fun _ x7 _ => (intOf x7 + 1).toNat)
  case atStart => exact ⟨0, by omega, by simp, by go_num, hM⟩
  case round =>
    obtain ⟨j, hj, rfl, rfl, hMr⟩ := hrel
    clear hM
    have hM := hMr
    clear hMr
    have hle : n / 8 ^ j ≤ n := Nat.div_le_self _ _
    obtain ⟨m, hm⟩ : ∃ m, Hid (m = n / 8 ^ j) := ⟨_, hd_ rfl⟩
    rw [← hm.out] at hle ⊢
    have hmb : (m : Int) < 9223372036854775808 := by omega
    by_cases hlt : j + 2 ≤ v
    · obtain ⟨p, hp⟩ : ∃ p : Nat, (v : Int) - 2 - (j : Int) = (p : Int) := ⟨v - 2 - j, by omega⟩
      rw [hp]
      have f2 : decide ((p : Int) ≥ 0) = true := decide_eq_true (by omega)
      have hpv : p < v := by omega
      have hpvi : (p : Int) < (v : Int) := by omega
      have hr : (m : Int).tmod 8 = ((m % 8 : Nat) : Int) := by rw [Int.tmod_eq_emod_of_nonneg (by omega)]; omega
      have hq : (m : Int).tdiv 8 = ((m / 8 : Nat) : Int) := by rw [Int.tdiv_eq_ediv_of_nonneg (by omega)]; omega
      replace hr := hd_ hr
      replace hq := hd_ hq
      replace hp := hd_ hp
      go_wp2_with (first | ((with_reducible refine wpl ?_); apply st_cell (hM := hM) (ht := one5); rfl; (first | exact want_none rfl | exact want_some rfl rfl rfl rfl); rfl; (first | (focus (go_simp; done)) | (focus (go_simp; rfl))); (first | exact .head _ _ | exact .tail (.head _ _)); (rw [row_size]; omega); rfl; intro w1 hM1; clear hM; have hM := hM1; clear hM1; simp only [Act.put, List.setIfInBounds_toArray, List.set_cons_zero, List.set_cons_succ]))
      have hpn : p = v - 2 - j := by have := hp.out; omega
      have hdv : Value.int .u8 (48 + (m : Int) % 8) = u8 (dgt n (v - 1) p) := by
        rw [hpn, ← dgt_val (n := n) (v := v) (j := j) hlt, ← hm.out]
        simp
      rw [hdv, row_set, hpn, offield_step hlt] at hM
      go_roundw
      case rel =>
        refine ⟨j + 1, by omega, ?_, ?_, hM⟩
        · rw [Nat.pow_succ, ← Nat.div_div_eq_div_mul, ← hm.out]
          simp
        · have := hp.out
          congr 1
          omega
      case measure => simp [intOf] <;> omega
    · have hvj : v = j + 1 := by omega
      have hp : (v : Int) - 2 - (j : Int) = -1 := by omega
      rw [hp]
      replace hp := hd_ hp
      go_wp2
      go_ret2
      rw [show j = v - 1 by omega, offield_end (by omega)] at hM
      exact ⟨gz, rfl, hM⟩
end
end Go.Proofs.YtfpfdnckibaldaaDoor.O
