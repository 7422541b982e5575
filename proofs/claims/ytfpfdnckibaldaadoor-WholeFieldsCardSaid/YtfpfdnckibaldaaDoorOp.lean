/- A field as a number: whatever its bytes it is read; a field of octal digits says its number. No condition. -/
import Derived.Test.YtfpfdnckibaldaaDoorOd
import Derived.Deep.CutBlock
set_option linter.unusedSimpArgs false
set_option linter.unusedVariables false
namespace Go.Proofs.YtfpfdnckibaldaaDoor.O
open Go.RowKit Go.Proofs.YtfpfdnckibaldaaDoor.M Go.Proofs.YtfpfdnckibaldaaDoor.O


section
variable {w : World}
theorem cut1 {g q c : Nat} (h : c ≠ 1) : cutAt (some ⟨g, q, none⟩) c 1 1 = some ⟨g, q + 1, none⟩ := by unfold cutAt; rw [if_neg h]; rfl
theorem u8i_lt (b : UInt8) : ((b.toNat : Nat) : Int) < 256 := by have := b.toNat_lt; omega

set_option maxHeartbeats 2000000 in
theorem binary_ (w : World) (g q c : Nat) (bs : List UInt8) (hA : At w g q bs) (h0 : 0 < bs.length) (hc1 : c ≠ 1) (hl : bs.length ≤ 1000000) : Calls Tryd.prog 16 #[.slice (some ⟨g, q, none⟩) bs.length c] w fun e w' => ∃ n e' : Int, e = .returned (.tuple #[.int .i64 n, .int .i64 e']) ∧ w' = w := by
  have hc0 := hA.cell h0
  rw [Nat.add_zero] at hc0
  have hl0 : (0 : Int) < (bs.length : Int) := by omega
  have hli : (bs.length : Int) ≤ 1000000 := by omega
  generalize bs[0].toNat = b0 at hc0
  obtain ⟨m1, hm1⟩ : ∃ m1, bs.length - 1 = m1 := ⟨_, rfl⟩
  rcases Bool.eq_false_or_eq_true ((b0 : Int) != 128) with hb1 | hb1
  · rcases Bool.eq_false_or_eq_true ((b0 : Int) != 255) with hb2 | hb2
    · go_enter Tryd.func16, Tryd.ntmps16
      go_wp2_with (first | ((with_reducible refine wpl ?_); apply ld_cell; rfl; (first | exact want_none rfl | exact want_some rfl rfl rfl rfl); rfl; (first | exact hc0); exact one5; simp only [Act.put, List.setIfInBounds_toArray, List.set_cons_zero, List.set_cons_succ]))
      go_ret2
      exact ⟨_, _, rfl, rfl⟩
    · have hb3 : ((b0 : Int) == 255) = true := by simpa using hb2
      go_enter Tryd.func16, Tryd.ntmps16
      go_wp2_with (first | ((with_reducible refine wpl ?_); apply ld_cell; rfl; (first | exact want_none rfl | exact want_some rfl rfl rfl rfl); rfl; (first | exact hc0); exact one5; simp only [Act.put, List.setIfInBounds_toArray, List.set_cons_zero, List.set_cons_succ]) | ((with_reducible refine wpl ?_); apply sl_l 1 (e := 5) (size := 1); rfl; (first | exact want_none rfl | exact want_some rfl rfl rfl rfl); exact und26; exact size5; rfl; rfl; rfl; exact h0; (rw [cut1 hc1]); simp only [Act.put, List.setIfInBounds_toArray, List.set_cons_zero, List.set_cons_succ]))
      go_loopw [24, 4] (fun x24 x4 wr => ∃ (i : Nat) (n : Int), i ≤ bs.length - 1 ∧ x24 = .int .i64 i ∧ x4 = .int .i64 n ∧ wr = w) (fun x24 _ _ => (bs.length - 1) - (intOf x24).toNat)
      case atStart => exact ⟨0, _, Nat.zero_le _, by go_num, rfl, rfl⟩
      case round =>
        obtain ⟨i, n, hi, rfl, rfl, rfl⟩ := hrel
        by_cases hlt : i < bs.length - 1
        · have hlti : (i : Int) < ((bs.length - 1 : Nat) : Int) := by omega
          have hci := hA.cell (j := 1 + i) (by omega)
          rw [← Nat.add_assoc] at hci
          generalize bs[1 + i].toNat = bi at hci
          rcases Bool.eq_false_or_eq_true (decide (n ≥ 36028797018963968)) with f3 | f3 <;> rcases Bool.eq_false_or_eq_true (decide (n < -36028797018963968)) with f4 | f4
          all_goals
            go_wp2_with (first | ((with_reducible refine wpl ?_); apply ld_cell; rfl; (first | exact want_none rfl | exact want_some rfl rfl rfl rfl); rfl; (first | exact hci); exact one5; simp only [Act.put, List.setIfInBounds_toArray, List.set_cons_zero, List.set_cons_succ]))
          · go_ret2
            exact ⟨_, _, rfl, rfl⟩
          · go_ret2
            exact ⟨_, _, rfl, rfl⟩
          · go_ret2
            exact ⟨_, _, rfl, rfl⟩
          · go_roundw
            case rel => exact ⟨i + 1, _, by omega, by go_num, rfl, trivial⟩
            case measure => simp [intOf] <;> omega
        · obtain rfl : i = bs.length - 1 := by omega
          go_wp2
          go_ret2
          exact ⟨_, _, rfl, rfl⟩
  · have hb4 : (b0 : Int) = 128 := by simpa using hb1
    have hb3 : ((b0 : Int) == 255) = false := beq_eq_false_iff_ne.2 (by omega)
    replace hb4 := hd_ hb4
    go_enter Tryd.func16, Tryd.ntmps16
    go_wp2_with (first | ((with_reducible refine wpl ?_); apply ld_cell; rfl; (first | exact want_none rfl | exact want_some rfl rfl rfl rfl); rfl; (first | exact hc0); exact one5; simp only [Act.put, List.setIfInBounds_toArray, List.set_cons_zero, List.set_cons_succ]) | ((with_reducible refine wpl ?_); apply sl_l 1 (e := 5) (size := 1); rfl; (first | exact want_none rfl | exact want_some rfl rfl rfl rfl); exact und26; exact size5; rfl; rfl; rfl; exact h0; (rw [cut1 hc1]); simp only [Act.put, List.setIfInBounds_toArray, List.set_cons_zero, List.set_cons_succ]))
    go_loopw [24, 4] (fun x24 x4 wr => ∃ (i : Nat) (n : Int), i ≤ bs.length - 1 ∧ x24 = .int .i64 i ∧ x4 = .int .i64 n ∧ wr = w) (fun x24 _ _ => (bs.length - 1) - (intOf x24).toNat)
    case atStart => exact ⟨0, _, Nat.zero_le _, by go_num, rfl, rfl⟩
    case round =>
      obtain ⟨i, n, hi, rfl, rfl, rfl⟩ := hrel
      by_cases hlt : i < bs.length - 1
      · have hlti : (i : Int) < ((bs.length - 1 : Nat) : Int) := by omega
        have hci := hA.cell (j := 1 + i) (by omega)
        rw [← Nat.add_assoc] at hci
        generalize bs[1 + i].toNat = bi at hci
        rcases Bool.eq_false_or_eq_true (decide (n ≥ 36028797018963968)) with f3 | f3 <;> rcases Bool.eq_false_or_eq_true (decide (n < -36028797018963968)) with f4 | f4
        all_goals
          go_wp2_with (first | ((with_reducible refine wpl ?_); apply ld_cell; rfl; (first | exact want_none rfl | exact want_some rfl rfl rfl rfl); rfl; (first | exact hci); exact one5; simp only [Act.put, List.setIfInBounds_toArray, List.set_cons_zero, List.set_cons_succ]))
        · go_ret2
          exact ⟨_, _, rfl, rfl⟩
        · go_ret2
          exact ⟨_, _, rfl, rfl⟩
        · go_ret2
          exact ⟨_, _, rfl, rfl⟩
        · go_roundw
          case rel => exact ⟨i + 1, _, by omega, by go_num, rfl, trivial⟩
          case measure => simp [intOf] <;> omega
      · obtain rfl : i = bs.length - 1 := by omega
        go_wp2
        go_ret2
        exact ⟨_, _, rfl, rfl⟩

set_option maxHeartbeats 4000000 in
theorem parse_ (w : World) (g q c : Nat) (bs : List UInt8) (hA : At w g q bs) (hc1 : c ≠ 1) (hl : bs.length ≤ 1000000) : Calls Tryd.prog 5 #[.slice (some ⟨g, q, none⟩) bs.length c] w fun e w' => ∃ n e' : Int, e = .returned (.tuple #[.int .i64 n, .int .i64 e']) ∧ w' = w ∧ ∀ v, Oct bs v → n = (v : Int) ∧ e' = 0 := by
  have hli : (bs.length : Int) ≤ 1000000 := by omega
  by_cases hbig : ∃ h0 : 0 < bs.length, 128 ≤ bs[0].toNat
  · obtain ⟨h0, h128⟩ := hbig
    have hno : Hid (∀ v, ¬ Oct bs v) := hd_ (fun v hv => by obtain ⟨h1, h2⟩ := hv.first; unfold isd at h2; omega)
    have hc0 := hA.cell h0
    rw [Nat.add_zero] at hc0
    have hl0 : (0 : Int) < (bs.length : Int) := by omega
    generalize bs[0].toNat = b0 at hc0 h128
    have f1 : decide ((b0 : Int) ≥ 128) = true := decide_eq_true (by omega)
    go_enter Tryd.func5, Tryd.ntmps5
    go_wp2_with (first | ((with_reducible refine wpl ?_); apply ld_cell; rfl; (first | exact want_none rfl | exact want_some rfl rfl rfl rfl); rfl; (first | exact hc0); exact one5; simp only [Act.put, List.setIfInBounds_toArray, List.set_cons_zero, List.set_cons_succ]) | (go_at_call 16; (with_reducible refine (binary_ w g q c bs hA h0 hc1 hl).mono ?_); rintro e w3 ⟨n, e2, rfl, rfl⟩))
    go_ret2
    exact ⟨_, _, rfl, rfl, fun v hv => absurd hv (hno.out v)⟩
  · have hsm : Hid (∀ h0 : 0 < bs.length, bs[0].toNat < 128) := hd_ (fun h0 => by
      rcases Nat.lt_or_ge bs[0].toNat 128 with h1 | h1
      · exact h1
      · exact absurd ⟨h0, h1⟩ hbig)
    clear hbig
    go_enter Tryd.func5, Tryd.ntmps5
    go_upto_region 1 with fail
    go_cut [14] from 6 to 14 (fun x14 wx => x14 = .bool false ∧ w = wx)
    case first =>
      by_cases h0 : 0 < bs.length
      · have hc0 := hA.cell h0
        rw [Nat.add_zero] at hc0
        have h1 := hsm.out h0
        generalize bs[0].toNat = b0 at hc0 h1
        have f1 : decide ((b0 : Int) ≥ 128) = false := decide_eq_false (by omega)
        go_wp2_with (first | ((with_reducible refine wpl ?_); apply ld_cell; rfl; (first | exact want_none rfl | exact want_some rfl rfl rfl rfl); rfl; (first | exact hc0); exact one5; simp only [Act.put, List.setIfInBounds_toArray, List.set_cons_zero, List.set_cons_succ]))
        go_meet
        case rel => exact ⟨rfl, rfl⟩
      · go_wp2
        go_meet
        case rel => exact ⟨rfl, rfl⟩
    case rest =>
      obtain ⟨rfl, rfl⟩ := hcut
      go_upto_block 0 with fail
      go_cut [4] from 19 to 31 (fun x4 wx => ∃ i : Nat, x4 = .int .i64 i ∧ i ≤ bs.length ∧ Hid (∀ v, Oct bs v → i = 0) ∧ w = wx)
      case first =>
        go_wp2
        go_loopw [4] (fun x4 wr => ∃ i : Nat, x4 = .int .i64 i ∧ i ≤ bs.length ∧ Hid (∀ v, Oct bs v → i = 0) ∧ w = wr) (fun x4 _ => bs.length - (intOf x4).toNat)
        case atStart => exact ⟨0, by go_num, Nat.zero_le _, hd_ (fun _ _ => rfl), rfl⟩
        case round =>
          obtain ⟨i, rfl, hi, hoc, rfl⟩ := hrel
          by_cases hlt : i < bs.length
          · have hci := hA.cell hlt
            have hlti : (i : Int) < (bs.length : Int) := by omega
            obtain ⟨bi, hbi⟩ : ∃ bi, Hid (bs[i].toNat = bi) := ⟨_, hd_ rfl⟩
            rw [hbi.out] at hci
            by_cases hb : bi = 32
            · have f1 : ((bi : Int) == 32) = true := beq_iff_eq.2 (by omega)
              replace hb := hd_ hb
              go_wp2_with (first | ((with_reducible refine wpl ?_); apply ld_cell; rfl; (first | exact want_none rfl | exact want_some rfl rfl rfl rfl); rfl; (first | exact hci); exact one5; simp only [Act.put, List.setIfInBounds_toArray, List.set_cons_zero, List.set_cons_succ]))
              go_roundw
              case rel =>
                refine ⟨i + 1, by go_num, by omega, hd_ (fun v hv => ?_), trivial⟩
                exfalso
                obtain rfl := hoc.out v hv
                obtain ⟨h1, h2⟩ := hv.first
                have h3 := hbi.out
                have h4 := hb.out
                unfold isd at h2
                omega
              case measure => simp [intOf] <;> omega
            · have f1 : ((bi : Int) == 32) = false := beq_eq_false_iff_ne.2 (by omega)
              go_wp2_with (first | ((with_reducible refine wpl ?_); apply ld_cell; rfl; (first | exact want_none rfl | exact want_some rfl rfl rfl rfl); rfl; (first | exact hci); exact one5; simp only [Act.put, List.setIfInBounds_toArray, List.set_cons_zero, List.set_cons_succ]))
              go_meet
              case rel => exact ⟨i, rfl, hi, hoc, rfl⟩
          · obtain rfl : i = bs.length := by omega
            go_wp2
            go_meet
            case rel => exact ⟨bs.length, rfl, hi, hoc, rfl⟩
      case rest =>
        obtain ⟨i0, rfl, hi0, hoc, rfl⟩ := hcut
        go_upto_block 2 with fail
        go_cut [4, 5] from 32 to 62 (fun x4 x5 wx => ∃ (i : Nat) (n : Int), x4 = .int .i64 i ∧ x5 = .int .i64 n ∧ i ≤ bs.length ∧ Hid (∀ v, Oct bs v → n = (v : Int) ∧ ∀ j (hj : j < bs.length), i ≤ j → bs[j].toNat = 0 ∨ bs[j].toNat = 32) ∧ w = wx)
        case first =>
          go_wp2
          go_loopw [4, 5] (fun x4 x5 wr => ∃ (i n : Nat), x4 = .int .i64 i ∧ x5 = .int .i64 n ∧ i ≤ bs.length ∧ n < 9223372036854775808 ∧ Hid (∀ v, Oct bs v → n = ov (bs.take i) ∧ ∀ j (hj : j < bs.length), j < i → isd bs[j]) ∧ w = wr) (fun x4 _ _ => bs.length - (intOf x4).toNat)
          case atStart => exact ⟨i0, 0, by go_num, by go_num, hi0, by omega, hd_ (fun v hv => by rw [hoc.out v hv]; exact ⟨rfl, fun j _ h => absurd h (Nat.not_lt_zero _)⟩), rfl⟩
          case round =>
            obtain ⟨i, n, rfl, rfl, hi, hn, hr, rfl⟩ := hrel
            by_cases hlt : i < bs.length
            · have hci := hA.cell hlt
              have hlti : (i : Int) < (bs.length : Int) := by omega
              obtain ⟨bi, hbi⟩ : ∃ bi, Hid (bs[i].toNat = bi) := ⟨_, hd_ rfl⟩
              rw [hbi.out] at hci
              have hend : Hid (¬ (48 ≤ bi ∧ bi ≤ 55) → ∀ v, Oct bs v → (n : Int) = (v : Int) ∧ ∀ j (hj : j < bs.length), i ≤ j → bs[j].toNat = 0 ∨ bs[j].toNat = 32) := hd_ (fun h v hv => by
                obtain ⟨h1, h2⟩ := hr.out v hv
                have h3 := hv.digits hi h2 (fun hlt2 => by unfold isd; rw [hbi.out]; exact h)
                exact ⟨by rw [h1, h3.1], h3.2⟩)
              by_cases h48 : 48 ≤ bi
              · have f1 : decide ((bi : Int) ≥ 48) = true := decide_eq_true (by omega)
                by_cases h55 : bi ≤ 55
                · have f2 : decide ((bi : Int) ≤ 55) = true := decide_eq_true (by omega)
                  have hall : Hid (∀ v, Oct bs v → ∀ j (hj : j < bs.length), j ≤ i → isd bs[j]) := hd_ (fun v hv j hj hji => by
                    rcases Nat.lt_or_ge j i with h | h
                    · exact (hr.out v hv).2 j hj h
                    · have e : j = i := by omega
                      subst e
                      unfold isd
                      rw [hbi.out]
                      exact ⟨h48, h55⟩)
                  clear hend
                  by_cases hn60 : 1152921504606846976 ≤ n
                  · have f3 : decide ((n : Int) ≥ 1152921504606846976) = true := decide_eq_true (by omega)
                    have hno : Hid (∀ v, ¬ Oct bs v) := hd_ (fun v hv => by
                      have h1 := hv.room hlt (hall.out v hv)
                      rw [← (hr.out v hv).1] at h1
                      omega)
                    go_wp2_with (first | ((with_reducible refine wpl ?_); apply ld_cell; rfl; (first | exact want_none rfl | exact want_some rfl rfl rfl rfl); rfl; (first | exact hci); exact one5; simp only [Act.put, List.setIfInBounds_toArray, List.set_cons_zero, List.set_cons_succ]))
                    go_ret2
                    exact ⟨_, _, rfl, rfl, fun v hv => absurd hv (hno.out v)⟩
                  · have f3 : decide ((n : Int) ≥ 1152921504606846976) = false := decide_eq_false (by omega)
                    have hw1 : IntKind.u8.wrap ((bi : Int) - 48) = (bi : Int) - 48 := by rw [IntKind.wrap_u8]; omega
                    have hw2 : IntKind.i64.wrap (8 * (n : Int)) = 8 * (n : Int) := IntWalk.i64_in _ (by omega)
                    have hw3 : IntKind.i64.wrap ((bi : Int) - 48) = (bi : Int) - 48 := IntWalk.i64_in _ (by omega)
                    have hw4 : IntKind.i64.wrap (8 * (n : Int) + ((bi : Int) - 48)) = 8 * (n : Int) + ((bi : Int) - 48) := IntWalk.i64_in _ (by omega)
                    go_wp2_with (first | ((with_reducible refine wpl ?_); apply ld_cell; rfl; (first | exact want_none rfl | exact want_some rfl rfl rfl rfl); rfl; (first | exact hci); exact one5; simp only [Act.put, List.setIfInBounds_toArray, List.set_cons_zero, List.set_cons_succ]))
                    go_roundw
                    case rel =>
                      refine ⟨i + 1, 8 * n + (bi - 48), by go_num, by congr 1; omega, by omega, by omega, hd_ (fun v hv => ⟨?_, fun j hj hji => hall.out v hv j hj (by omega)⟩), trivial⟩
                      rw [ov_take hlt, ← (hr.out v hv).1, hbi.out]
                    case measure => simp [intOf] <;> omega
                · have f2 : decide ((bi : Int) ≤ 55) = false := decide_eq_false (by omega)
                  have hfin := hd_ (hend.out (fun h => h55 h.2))
                  go_wp2_with (first | ((with_reducible refine wpl ?_); apply ld_cell; rfl; (first | exact want_none rfl | exact want_some rfl rfl rfl rfl); rfl; (first | exact hci); exact one5; simp only [Act.put, List.setIfInBounds_toArray, List.set_cons_zero, List.set_cons_succ]))
                  go_meet
                  case rel => exact ⟨i, n, rfl, rfl, hi, hfin, rfl⟩
              · have f1 : decide ((bi : Int) ≥ 48) = false := decide_eq_false (by omega)
                have hfin := hd_ (hend.out (fun h => h48 h.1))
                go_wp2_with (first | ((with_reducible refine wpl ?_); apply ld_cell; rfl; (first | exact want_none rfl | exact want_some rfl rfl rfl rfl); rfl; (first | exact hci); exact one5; simp only [Act.put, List.setIfInBounds_toArray, List.set_cons_zero, List.set_cons_succ]))
                go_meet
                case rel => exact ⟨i, n, rfl, rfl, hi, hfin, rfl⟩
            · obtain rfl : i = bs.length := by omega
              have hfin : Hid (∀ v, Oct bs v → (n : Int) = (v : Int) ∧ ∀ j (hj : j < bs.length), bs.length ≤ j → bs[j].toNat = 0 ∨ bs[j].toNat = 32) := hd_ (fun v hv => by
                obtain ⟨h1, h2⟩ := hr.out v hv
                have h3 := hv.digits hi h2 (fun h => absurd h (Nat.lt_irrefl _))
                exact ⟨by rw [h1, h3.1], h3.2⟩)
              go_wp2
              go_meet
              case rel => exact ⟨bs.length, n, rfl, rfl, hi, hfin, rfl⟩
        case rest =>
          obtain ⟨i1, n, rfl, rfl, hi1, hfin, rfl⟩ := hcut
          go_wp2
          go_loopw [4] (fun x4 wr => ∃ i : Nat, x4 = .int .i64 i ∧ i1 ≤ i ∧ i ≤ bs.length ∧ w = wr) (fun x4 _ => bs.length - (intOf x4).toNat)
          case atStart => exact ⟨i1, rfl, Nat.le_refl _, hi1, rfl⟩
          case round =>
            obtain ⟨i, rfl, hii, hi, rfl⟩ := hrel
            by_cases hlt : i < bs.length
            · have hci := hA.cell hlt
              have hlti : (i : Int) < (bs.length : Int) := by omega
              obtain ⟨bi, hbi⟩ : ∃ bi, Hid (bs[i].toNat = bi) := ⟨_, hd_ rfl⟩
              rw [hbi.out] at hci
              by_cases hb0 : bi = 0
              · have f1 : ((bi : Int) != 0) = false := by simp [hb0]
                replace hb0 := hd_ hb0
                go_wp2_with (first | ((with_reducible refine wpl ?_); apply ld_cell; rfl; (first | exact want_none rfl | exact want_some rfl rfl rfl rfl); rfl; (first | exact hci); exact one5; simp only [Act.put, List.setIfInBounds_toArray, List.set_cons_zero, List.set_cons_succ]))
                go_roundw
                case rel => exact ⟨i + 1, by go_num, by omega, by omega, trivial⟩
                case measure => simp [intOf] <;> omega
              · have f1 : ((bi : Int) != 0) = true := by simp; omega
                by_cases hb32 : bi = 32
                · have f2 : ((bi : Int) != 32) = false := by simp [hb32]
                  replace hb32 := hd_ hb32
                  go_wp2_with (first | ((with_reducible refine wpl ?_); apply ld_cell; rfl; (first | exact want_none rfl | exact want_some rfl rfl rfl rfl); rfl; (first | exact hci); exact one5; simp only [Act.put, List.setIfInBounds_toArray, List.set_cons_zero, List.set_cons_succ]))
                  go_roundw
                  case rel => exact ⟨i + 1, by go_num, by omega, by omega, trivial⟩
                  case measure => simp [intOf] <;> omega
                · have f2 : ((bi : Int) != 32) = true := by simp; omega
                  have hno : Hid (∀ v, ¬ Oct bs v) := hd_ (fun v hv => by
                    have h1 := (hfin.out v hv).2 i hlt hii
                    rw [hbi.out] at h1
                    omega)
                  go_wp2_with (first | ((with_reducible refine wpl ?_); apply ld_cell; rfl; (first | exact want_none rfl | exact want_some rfl rfl rfl rfl); rfl; (first | exact hci); exact one5; simp only [Act.put, List.setIfInBounds_toArray, List.set_cons_zero, List.set_cons_succ]))
                  go_ret2
                  exact ⟨_, _, rfl, rfl, fun v hv => absurd hv (hno.out v)⟩
            · obtain rfl : i = bs.length := by omega
              go_wp2
              go_ret2
              exact ⟨_, _, rfl, rfl, fun v hv => ⟨(hfin.out v hv).1, rfl⟩⟩
end
end Go.Proofs.YtfpfdnckibaldaaDoor.O
