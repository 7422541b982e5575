/- Decimal texts, kinds and their bytes, the end of a text. No condition. -/
import Derived.Test.YtfpfdnckibaldaaDoorDec
import Derived.Test.YtfpfdnckibaldaaDoorLib2
import Derived.Test.YtfpfdnckibaldaaDoorChecked
import Derived.Deep.CutBlock
import Derived.LaidEql
set_option linter.unusedSimpArgs false
set_option linter.unusedVariables false
namespace Go.Proofs.YtfpfdnckibaldaaDoor.E
open Go.RowKit Go.Proofs.YtfpfdnckibaldaaDoor.M Go.Proofs.YtfpfdnckibaldaaDoor.D Go.Lib


theorem und26 : Tryd.prog.underlying 26 = some (.slice 5) := by kernel_rfl
theorem und5 : Tryd.prog.underlying 5 = some (.int .u8) := by kernel_rfl
theorem und9 : Tryd.prog.underlying 9 = some .string := by kernel_rfl
theorem slb : SlTy Tryd.prog 26 5 1 1 (.int .u8 0) := ⟨by kernel_rfl, by kernel_rfl⟩

theorem type_ (w : World) (k : Int) (b : Int) (h : (k = 1 ∧ b = 48) ∨ (k = 2 ∧ b = 49) ∨ (k = 3 ∧ b = 50) ∨ (k = 4 ∧ b = 53)) : Calls Tryd.prog 14 #[.int .i64 k] w fun e w' => e = .returned (.int .u8 b) ∧ w = w' := by
  rcases h with ⟨rfl, rfl⟩ | ⟨rfl, rfl⟩ | ⟨rfl, rfl⟩ | ⟨rfl, rfl⟩
  all_goals
    go_enter Tryd.func14, Tryd.ntmps14
    go_wp2
    go_ret
    exact ⟨rfl, rfl⟩
theorem type_none (w : World) (k : Int) (h1 : k ≠ 1) (h2 : k ≠ 2) (h3 : k ≠ 3) (h4 : k ≠ 4) : Calls Tryd.prog 14 #[.int .i64 k] w fun e w' => e = .returned (.int .u8 0) ∧ w = w' := by
  have f1 : (k == 1) = false := beq_eq_false_iff_ne.2 h1
  have f2 : (k == 2) = false := beq_eq_false_iff_ne.2 h2
  have f3 : (k == 3) = false := beq_eq_false_iff_ne.2 h3
  have f4 : (k == 4) = false := beq_eq_false_iff_ne.2 h4
  go_enter Tryd.func14, Tryd.ntmps14
  go_wp2
  go_ret
  exact ⟨rfl, rfl⟩
theorem kind_ (w : World) (k : Int) (b : Int) (h : (k = 1 ∧ b = 48) ∨ (k = 2 ∧ b = 49) ∨ (k = 3 ∧ b = 50) ∨ (k = 4 ∧ b = 53)) : Calls Tryd.prog 21 #[.int .u8 b] w fun e w' => e = .returned (.int .i64 k) ∧ w = w' := by
  rcases h with ⟨rfl, rfl⟩ | ⟨rfl, rfl⟩ | ⟨rfl, rfl⟩ | ⟨rfl, rfl⟩
  all_goals
    go_enter Tryd.func21, Tryd.ntmps21
    go_wp2
    go_ret
    exact ⟨rfl, rfl⟩

theorem one_u8 {d : Nat} (h : d < 10) : Value.int .u8 (48 + (d : Int)) = u8 (UInt8.ofNat (48 + d)) := by
  unfold u8
  rw [dig_nat h]
  congr 1
theorem ba_app (a b : List UInt8) : (⟨a.toArray⟩ : ByteArray) ++ ⟨b.toArray⟩ = ⟨(a ++ b).toArray⟩ := by
  apply ByteArray.ext
  simp

theorem itoa_of (u0 : Nat) (n : Int) (neg : Bool) (tl : List UInt8) (d : Nat) (hd : d < 10) (hn : decide (n < 0) = neg) (hu : n.natAbs = u0) (h : decDigits u0 = decDigits d ++ tl) : itoa n = (if neg then [45] else []) ++ (UInt8.ofNat (48 + d) :: tl) := by
  rw [decDigits_one hd] at h
  unfold itoa
  by_cases h0 : n < 0
  · rw [if_pos h0, hu, h]
    obtain rfl : true = neg := by rw [← hn]; exact (decide_eq_true h0).symm
    rfl
  · rw [if_neg h0, show n.toNat = u0 by omega, h]
    obtain rfl : false = neg := by rw [← hn]; exact (decide_eq_false h0).symm
    rfl

theorem nD21 (n : Int) (h0 : -9223372036854775808 ≤ n) (h1 : n ≤ 9223372036854775807) : nDigits n.natAbs ≤ 20 := by
  have hk : ∀ k u, u < 10 ^ (k + 1) → nDigits u ≤ k + 1 := by
    intro k
    induction k with
    | zero => intro u hu; rw [nDigits_small (by omega)]; omega
    | succ k ih =>
      intro u hu
      by_cases h : u < 10
      · rw [nDigits_small h]; omega
      · rw [nDigits_big h]
        have := ih (u / 10) (by rw [Nat.div_lt_iff_lt_mul (by omega)]; rw [Nat.pow_succ] at hu; exact hu)
        omega
  have h2 : (10 : Nat) ^ (19 + 1) = 100000000000000000000 := by decide
  exact hk 19 n.natAbs (by omega)
theorem ba_cons (b : UInt8) (l : List UInt8) : (⟨[b].toArray⟩ : ByteArray) ++ ⟨l.toArray⟩ = ⟨(b :: l).toArray⟩ := ba_app [b] l
theorem ba_cons' (b : UInt8) (l : List UInt8) : (⟨#[b]⟩ : ByteArray) ++ ⟨l.toArray⟩ = ⟨(b :: l).toArray⟩ := ba_app [b] l

set_option maxHeartbeats 4000000 in
theorem dec_ (w : World) (n : Int) (hlo : -9223372036854775808 ≤ n) (hhi : n ≤ 9223372036854775807) : Calls Tryd.prog 15 #[.int .i64 n] w fun e w' => e = .returned (.string ⟨(itoa n).toArray⟩) ∧ Below w.heap.size w w' := by
  have hM := Mem.start w
  have h21 := nD21 n hlo hhi
  obtain ⟨neg, hneg⟩ : ∃ b, Hid (decide (n < 0) = b) := ⟨_, hd_ rfl⟩
  go_enter Tryd.func15, Tryd.ntmps15
  go_wp2
  rw [hneg.out]
  go_loopw [0, 3] (fun x0 x3 wr => ∃ (m : Int) (tl : List UInt8), x0 = .int .i64 m ∧ x3 = .string ⟨tl.toArray⟩ ∧ Hid (decDigits n.natAbs = decDigits m.natAbs ++ tl) ∧ (-9223372036854775808 ≤ m ∧ m ≤ 9223372036854775807) ∧ Hid (decide (m < 0) = neg) ∧ tl.length + nDigits m.natAbs ≤ 20 ∧ Mem w wr [] []) (fun x0 _ _ => (intOf x0).natAbs)
  case atStart => exact ⟨n, [], rfl, rfl, hd_ (by simp), ⟨hlo, hhi⟩, hneg, by simpa using h21, hM⟩
  case round =>
    obtain ⟨m, tl, rfl, rfl, hdd, hm, hng, hlen, hMr⟩ := hrel
    clear hM
    have hM := hMr
    clear hMr
    by_cases hbig : m > 9 ∨ m < -9
    · have f1 : (decide (m > 9) = true) ∨ (decide (m > 9) = false ∧ decide (m < -9) = true) := by
        rcases hbig with h | h
        · exact .inl (decide_eq_true h)
        · exact .inr ⟨decide_eq_false (by omega), decide_eq_true h⟩
      obtain ⟨q, hq⟩ : ∃ q, m.tdiv 10 = q := ⟨_, rfl⟩
      obtain ⟨r, hr⟩ : ∃ r, m.tmod 10 = r := ⟨_, rfl⟩
      have hqa : q.natAbs = m.natAbs / 10 := by rw [← hq, Int.natAbs_tdiv]; rfl
      have hra : r.natAbs = m.natAbs % 10 := by rw [← hr, Int.natAbs_tmod]; rfl
      have hmq : 10 * q + r = m := by rw [← hq, ← hr]; exact Int.mul_tdiv_add_tmod m 10
      have hqs : (m < 0 → q < 0) ∧ (¬ m < 0 → ¬ q < 0) := by
        constructor
        · intro h; omega
        · intro h; omega
      have hw1 : IntKind.i64.wrap q = q := IntWalk.i64_in _ (by omega)
      have hw2 : IntKind.i64.wrap r = r := IntWalk.i64_in _ (by omega)
      have hdd2 : Hid (decDigits n.natAbs = decDigits q.natAbs ++ (UInt8.ofNat (48 + r.natAbs) :: tl)) := hd_ (by
        rw [hdd.out, dec_big (by omega), hqa, hra]; simp)
      have hng2 : Hid (decide (q < 0) = neg) := hd_ (by
        rw [← hng.out]
        by_cases h : m < 0
        · rw [decide_eq_true h, decide_eq_true (hqs.1 h)]
        · rw [decide_eq_false h, decide_eq_false (hqs.2 h)])
      have hlen2 : tl.length + 1 + nDigits q.natAbs ≤ 20 := by rw [hqa]; rw [nDigits_big (by omega)] at hlen; omega
      have hmeas : q.natAbs < m.natAbs := by omega
      have hqr : -9223372036854775808 ≤ q ∧ q ≤ 9223372036854775807 := by omega
      have hd : r.natAbs < 10 := by omega
      clear hdd hng hqa hqs hlen
      generalize hdn : r.natAbs = d at hd hdd2 hra
      have hw4 : IntKind.i64.wrap (48 + (d : Int)) = 48 + (d : Int) := IntWalk.i64_in _ (by omega)
      have hw5 : IntKind.u8.wrap (48 + (d : Int)) = 48 + (d : Int) := IntWalk.u8_in _ (by omega)
      replace hmq := hd_ hmq
      obtain ⟨b, hb⟩ : ∃ b, UInt8.ofNat (48 + d) = b := ⟨_, rfl⟩
      have hob : Hid (Value.int .u8 (48 + (d : Int)) = M.u8 b) := hd_ (by rw [one_u8 hd, hb])
      rw [hb] at hdd2
      replace hb := hd_ hb
      replace hra := hd_ hra
      by_cases hr0 : r < 0
      · have f2 : decide (r < 0) = true := decide_eq_true hr0
        have hw3 : IntKind.i64.wrap (-r) = (d : Int) := by rw [IntWalk.i64_in _ (by omega)]; omega
        replace hdn := hd_ hdn
        rcases f1 with f1 | ⟨f1, f3⟩
        all_goals
          go_wp2_with (first | ((with_reducible refine wpl ?_); apply al_one (hM := hM) (ht := slb) (v := .int .u8 (48 + (d : Int))); rfl; (first | exact want_none rfl | exact want_some rfl rfl rfl rfl); (first | (focus (go_simp; done)) | (focus (go_simp; rfl))); rfl; intro gq w1 hM1; clear hM; rw [hob.out] at hM1; have hM := hM1; clear hM1; simp only [Act.put, List.setIfInBounds_toArray, List.set_cons_zero, List.set_cons_succ]) | ((with_reducible refine wpl ?_); apply cv_bs (src := 26) (dst := 9) (bs := [b]); rfl; (first | exact want_none rfl | exact want_some rfl rfl rfl rfl); exact und26; exact und5; exact und9; exact (hM.at_list (bs := [b]) (.head _ _)).bytes (by simp); simp only [Act.put, List.setIfInBounds_toArray, List.set_cons_zero, List.set_cons_succ]))
          go_roundw
          case rel => exact ⟨q, b :: tl, rfl, congrArg Value.string (ba_cons' b tl), hdd2, hqr, hng2, by rw [List.length_cons]; exact hlen2, hM.none⟩
          case measure => exact hmeas
      · have f2 : decide (r < 0) = false := decide_eq_false hr0
        obtain rfl : r = (d : Int) := by omega
        replace hdn := hd_ hdn
        rcases f1 with f1 | ⟨f1, f3⟩
        all_goals
          go_wp2_with (first | ((with_reducible refine wpl ?_); apply al_one (hM := hM) (ht := slb) (v := .int .u8 (48 + (d : Int))); rfl; (first | exact want_none rfl | exact want_some rfl rfl rfl rfl); (first | (focus (go_simp; done)) | (focus (go_simp; rfl))); rfl; intro gq w1 hM1; clear hM; rw [hob.out] at hM1; have hM := hM1; clear hM1; simp only [Act.put, List.setIfInBounds_toArray, List.set_cons_zero, List.set_cons_succ]) | ((with_reducible refine wpl ?_); apply cv_bs (src := 26) (dst := 9) (bs := [b]); rfl; (first | exact want_none rfl | exact want_some rfl rfl rfl rfl); exact und26; exact und5; exact und9; exact (hM.at_list (bs := [b]) (.head _ _)).bytes (by simp); simp only [Act.put, List.setIfInBounds_toArray, List.set_cons_zero, List.set_cons_succ]))
          go_roundw
          case rel => exact ⟨q, b :: tl, rfl, congrArg Value.string (ba_cons' b tl), hdd2, hqr, hng2, by rw [List.length_cons]; exact hlen2, hM.none⟩
          case measure => exact hmeas
    · have f1 : decide (m > 9) = false := decide_eq_false (by omega)
      have f3 : decide (m < -9) = false := decide_eq_false (by omega)
      obtain ⟨d, hdn⟩ : ∃ d : Nat, m.natAbs = d := ⟨_, rfl⟩
      have hd : d < 10 := by omega
      have hit : Hid (itoa n = (if neg then [45] else []) ++ (UInt8.ofNat (48 + d) :: tl)) := hd_ (itoa_of n.natAbs n neg tl d hd hneg.out rfl (by rw [hdd.out, hdn]))
      obtain ⟨b, hb⟩ : ∃ b, UInt8.ofNat (48 + d) = b := ⟨_, rfl⟩
      have hob : Hid (Value.int .u8 (48 + (d : Int)) = M.u8 b) := hd_ (by rw [one_u8 hd, hb])
      rw [hb] at hit
      replace hb := hd_ hb
      have hw4 : IntKind.i64.wrap (48 + (d : Int)) = 48 + (d : Int) := IntWalk.i64_in _ (by omega)
      have hw5 : IntKind.u8.wrap (48 + (d : Int)) = 48 + (d : Int) := IntWalk.u8_in _ (by omega)
      by_cases hm0 : m < 0
      · have f2 : decide (m < 0) = true := decide_eq_true hm0
        have hw3 : IntKind.i64.wrap (-m) = (d : Int) := by rw [IntWalk.i64_in _ (by omega)]; omega
        obtain rfl : true = neg := by rw [← hng.out, f2]
        replace hdn := hd_ hdn
        go_wp2_with (first | ((with_reducible refine wpl ?_); apply al_one (hM := hM) (ht := slb) (v := .int .u8 (48 + (d : Int))); rfl; (first | exact want_none rfl | exact want_some rfl rfl rfl rfl); (first | (focus (go_simp; done)) | (focus (go_simp; rfl))); rfl; intro gq w1 hM1; clear hM; rw [hob.out] at hM1; have hM := hM1; clear hM1; simp only [Act.put, List.setIfInBounds_toArray, List.set_cons_zero, List.set_cons_succ]) | ((with_reducible refine wpl ?_); apply cv_bs (src := 26) (dst := 9) (bs := [b]); rfl; (first | exact want_none rfl | exact want_some rfl rfl rfl rfl); exact und26; exact und5; exact und9; exact (hM.at_list (bs := [b]) (.head _ _)).bytes (by simp); simp only [Act.put, List.setIfInBounds_toArray, List.set_cons_zero, List.set_cons_succ]))
        go_ret
        exact ⟨by rw [hit.out]; simp only [ba_cons']; rfl, hM.below⟩
      · have f2 : decide (m < 0) = false := decide_eq_false hm0
        obtain rfl : m = (d : Int) := by omega
        obtain rfl : false = neg := by rw [← hng.out, f2]
        replace hdn := hd_ hdn
        go_wp2_with (first | ((with_reducible refine wpl ?_); apply al_one (hM := hM) (ht := slb) (v := .int .u8 (48 + (d : Int))); rfl; (first | exact want_none rfl | exact want_some rfl rfl rfl rfl); (first | (focus (go_simp; done)) | (focus (go_simp; rfl))); rfl; intro gq w1 hM1; clear hM; rw [hob.out] at hM1; have hM := hM1; clear hM1; simp only [Act.put, List.setIfInBounds_toArray, List.set_cons_zero, List.set_cons_succ]) | ((with_reducible refine wpl ?_); apply cv_bs (src := 26) (dst := 9) (bs := [b]); rfl; (first | exact want_none rfl | exact want_some rfl rfl rfl rfl); exact und26; exact und5; exact und9; exact (hM.at_list (bs := [b]) (.head _ _)).bytes (by simp); simp only [Act.put, List.setIfInBounds_toArray, List.set_cons_zero, List.set_cons_succ]))
        go_ret
        exact ⟨by rw [hit.out]; simp only [ba_cons']; rfl, hM.below⟩
end Go.Proofs.YtfpfdnckibaldaaDoor.E
