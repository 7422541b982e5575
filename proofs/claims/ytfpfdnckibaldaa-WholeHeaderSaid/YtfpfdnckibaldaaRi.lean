/- A header bears its sum; a text up to its first byte 0; whether a text fits; whole names. No condition. -/
import Derived.Test.YtfpfdnckibaldaaSt
set_option linter.unusedSimpArgs false
set_option linter.unusedVariables false
namespace Go.Proofs.Ytfpfdnckibaldaa.H
open Go.RowKit Go.Proofs.Ytfpfdnckibaldaa.M Go.Proofs.Ytfpfdnckibaldaa.O


theorem cutm {g c m : Nat} (h : c ≠ m) : cutAt (some ⟨g, 0, none⟩) c m 1 = some ⟨g, m, none⟩ := by
  unfold cutAt
  rw [if_neg h]
  simp [Addr.add_lit]
theorem at_part {w : World} {g n o k : Nat} {D : Nat → UInt8} (h : At w g 0 (seg D 0 n)) (hk : o + k ≤ n) : At w g o (seg D o k) := fun j b hj => by
  have hlt : j < k := by
    have := (List.getElem?_eq_some_iff.1 hj).1
    rwa [seg_len] at this
  have h1 := h (o + j) b (by
    rw [seg_get (by omega), Nat.zero_add]
    rw [seg_get hlt] at hj
    exact hj)
  rwa [Nat.zero_add] at h1
theorem parse_n (w : World) (g q c n : Nat) (bs : List UInt8) (hn : bs.length = n) (hA : At w g q bs) (hc1 : c ≠ 1) (hl : n ≤ 1000000) : Calls Try.prog 6 #[.slice (some ⟨g, q, none⟩) n c] w fun e w' => ∃ n e' : Int, e = .returned (.tuple #[.int .i64 n, .int .i64 e']) ∧ w' = w ∧ ∀ v, Oct bs v → n = (v : Int) ∧ e' = 0 := by
  subst hn
  exact parse_ w g q c bs hA hc1 hl

theorem text_ (w : World) (g q c n : Nat) (bs : List UInt8) (hn : bs.length = n) (hA : At w g q bs) (hc : n ≤ c) (hl : n ≤ 1000000) : Calls Try.prog 16 #[.slice (some ⟨g, q, none⟩) n c] w fun e w' => e = .returned (.string ⟨(txt bs).toArray⟩) ∧ Below w.heap.size w w' := by
  subst hn
  have hB := hA.bytes hc
  have hcut : Calls Try.prog 22 #[.string ⟨bs.toArray⟩, .string ⟨#[0]⟩] w fun e w' => (∃ r b, e = .returned (.tuple #[.string ⟨(txt bs).toArray⟩, r, b])) ∧ Below w.heap.size w w' := by
    go_enter Try.func22, Try.ntmps22
    go_wp2_with (go_at_call 25; (with_reducible refine (cut_ w bs hl).mono ?_); rintro e w3 ⟨⟨r, b, rfl⟩, hb⟩)
    go_ret3
    exact ⟨⟨_, _, rfl⟩, hb⟩
  go_enter Try.func16, Try.ntmps16
  go_wp2_with (first | ((with_reducible refine wpl ?_); apply cv_bs (bs := bs); rfl; (first | exact want_none rfl | exact want_some rfl rfl rfl rfl); exact und24; exact und5; exact und9; exact hB; simp only [Act.put, List.setIfInBounds_toArray, List.set_cons_zero, List.set_cons_succ]) | (go_at_call 22; (with_reducible refine hcut.mono ?_); rintro e w3 ⟨⟨r, b, rfl⟩, hb⟩))
  go_ret
  exact ⟨rfl, hb⟩

/-- May a text stand in a field of so many bytes? -/
def fits (bs : List UInt8) (m : Nat) : Bool := decide (bs.length ≤ m) && !decide (0 ≤ Lib.indexByte bs 0)
theorem fits_iff {bs : List UInt8} {m : Nat} : fits bs m = true ↔ bs.length ≤ m ∧ ∀ k : Nat, bs[k]? ≠ some 0 := by
  unfold fits
  rw [Bool.and_eq_true, decide_eq_true_iff, Bool.not_eq_true', decide_eq_false_iff_not]
  have hge := Lib.indexByte_ge bs 0
  constructor
  · rintro ⟨h1, h2⟩
    exact ⟨h1, Lib.indexByte_none (by omega)⟩
  · rintro ⟨h1, h2⟩
    refine ⟨h1, fun h3 => ?_⟩
    obtain ⟨o, ho⟩ := Int.eq_ofNat_of_zero_le h3
    exact h2 o (Lib.indexByte_some ho).1

theorem hfits_ (w : World) (bs : List UInt8) (m : Nat) (hl : bs.length ≤ 1000000) (hm : m ≤ 1000000) {mm : Int} (hmm : mm = (m : Int)) : Calls Try.prog 11 #[.string ⟨bs.toArray⟩, .int .i64 mm] w fun e w' => e = .returned (.bool (fits bs m)) ∧ w = w' := by
  subst hmm
  have hcon := Try.strings_Contains_one ⟨bs.toArray⟩ 0 w
  have hsz : (ByteArray.mk bs.toArray).size = bs.length := rfl
  rw [show (ByteArray.mk bs.toArray).data.toList = bs from rfl] at hcon
  by_cases h : bs.length ≤ m
  · have e : fits bs m = !decide (0 ≤ Lib.indexByte bs 0) := by unfold fits; simp [h]
    go_enter Try.func11, Try.ntmps11
    go_wp2_with (go_at_call 17; (with_reducible refine hcon.mono ?_); rintro e w3 ⟨rfl, hw3⟩; subst hw3)
    go_ret
    exact ⟨by rw [e]; first | rfl | simp, rfl⟩
  · have e : fits bs m = false := by unfold fits; simp [h]
    go_enter Try.func11, Try.ntmps11
    go_wp2
    go_ret
    first | exact ⟨rfl, rfl⟩ | exact ⟨by rw [e]; rfl, rfl⟩

set_option maxHeartbeats 2000000 in
theorem right_ (w : World) (g c : Nat) (D : Nat → UInt8) (hA : At w g 0 (seg D 0 512)) (hc : 512 ≤ c) (hs : Oct (seg D 148 8) (ps D 512)) : Calls Try.prog 5 #[.slice (some ⟨g, 0, none⟩) 512 c] w fun e w' => e = .returned (.bool true) ∧ w = w' := by
  have h1 := parse_n w g 148 (c - 148) 8 (seg D 148 8) (seg_len _ _ _) (at_part hA (by omega)) (by omega) (by omega)
  have h2 := plain_ w g 0 512 c D hA (by omega)
  have hs := hd_ hs
  obtain ⟨p, hp⟩ : ∃ p : Nat, Hid (ps D 512 = p) := ⟨_, hd_ rfl⟩
  rw [hp.out] at h2
  go_enter Try.func5, Try.ntmps5
  go_wp2_with (first | ((with_reducible refine wpl ?_); apply sl_lh 148 156 (e := 5) (size := 1); rfl; (first | exact want_none rfl | exact want_some rfl rfl rfl rfl); exact und24; exact size5; rfl; rfl; rfl; rfl; rfl; omega; omega; (rw [cutm (by omega)]); simp only [Act.put, List.setIfInBounds_toArray, List.set_cons_zero, List.set_cons_succ]) | (go_at_call 6; (with_reducible refine h1.mono ?_); rintro e w3 ⟨n, e', rfl, hw3, hoc⟩; subst hw3; obtain ⟨rfl, rfl⟩ := hoc _ hs.out; rw [hp.out]; clear hoc) | (go_at_call 13; (with_reducible refine h2.mono ?_); rintro e w3 ⟨rfl, hw4⟩; subst hw4))
  go_ret
  exact ⟨rfl, rfl⟩
end Go.Proofs.Ytfpfdnckibaldaa.H
