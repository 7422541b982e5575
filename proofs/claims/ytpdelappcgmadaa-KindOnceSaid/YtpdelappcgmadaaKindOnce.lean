/- For every two bytes: no type is of two classes; what brings bytes is a file or stands ahead; only ten types are known. No condition. -/
import Derived.Test.YtpdelappcgmadaaPKindBackx1
namespace Go.Proofs.Ytpdelappcgmadaa.KO
open Go.RowKit Go.Proofs.Ytpdelappcgmadaa.PKindBack Go.Proofs.YtpdelappcgmadaaW.PrintWords Go.Proofs.YtpdelappcgmadaaW.PrintLast Go.Proofs.YtpdelappcgmadaaW.PrintMore

theorem knows_true : pannierlaw08_knows.f = some true := by decide +kernel

def Yes (w : World) (e : Ending) (w' : World) : Prop := e = .returned (.bool true) ∧ Drawn0 w w'

theorem yes_of (w : World) (n : Nat) : Drawn0 w (w.drewN n) := (Drawn0.refl w).step n


theorem hid_ {p : Prop} (h : p) : Hid p := h

/-- How many types below x are known. -/
def cnt : Nat → Int
  | 0 => 0
  | x + 1 => cnt x + if kind_Class.f x = some 0 then 0 else 1

theorem cnt_le (x : Nat) : 0 ≤ cnt x ∧ cnt x ≤ x := by
  induction x with
  | zero => simp [cnt]
  | succ x ih => simp only [cnt]; split <;> omega

theorem cnt_all : cnt 256 = 10 := by decide +kernel

theorem class_some (a : Int) : ∃ c, kind_Class.f a = some c := by
  unfold kind_Class.f kind_Kind.f
  repeat' split
  all_goals first
    | exact ⟨_, rfl⟩
    | (simp only [Option.bind_some]; split <;> exact ⟨_, rfl⟩)

/-- What is known of a type: its class, its kind, and whether it brings bytes. -/
def Is (a c k : Int) (t : Bool) : Prop := kind_Class.f a = some c ∧ kind_Kind.f a = some k ∧ kind_Takes.f a = some t

instance (a c k : Int) (t : Bool) : Decidable (Is a c k t) := by unfold Is; infer_instance

theorem Is.parts (a : Int) : (Is a 2 0 true ∧ a = 120) ∨ (Is a 3 0 true ∧ a = 103) ∨ (Is a 4 0 true ∧ a = 76) ∨ (Is a 5 0 true ∧ a = 75) ∨ Is a 1 1 true ∨ Is a 1 2 false ∨ Is a 1 3 false ∨ Is a 1 4 false ∨ Is a 0 0 false := by
  by_cases h1 : a = 120
  · subst h1; exact .inl ⟨by decide +kernel, rfl⟩
  by_cases h2 : a = 103
  · subst h2; exact .inr (.inl ⟨by decide +kernel, rfl⟩)
  by_cases h3 : a = 76
  · subst h3; exact .inr (.inr (.inl ⟨by decide +kernel, rfl⟩))
  by_cases h4 : a = 75
  · subst h4; exact .inr (.inr (.inr (.inl ⟨by decide +kernel, rfl⟩)))
  refine .inr (.inr (.inr (.inr ?_)))
  by_cases g0 : a = 0
  · subst g0; exact .inl (by decide +kernel)
  by_cases g1 : a = 48
  · subst g1; exact .inl (by decide +kernel)
  by_cases g2 : a = 55
  · subst g2; exact .inl (by decide +kernel)
  by_cases g3 : a = 49
  · subst g3; exact .inr (.inl (by decide +kernel))
  by_cases g4 : a = 50
  · subst g4; exact .inr (.inr (.inl (by decide +kernel)))
  by_cases g5 : a = 53
  · subst g5; exact .inr (.inr (.inr (.inl (by decide +kernel))))
  refine .inr (.inr (.inr (.inr ?_)))
  have hk : kind_Kind.f a = some 0 := by
    unfold kind_Kind.f
    rw [if_neg g0, if_neg g1, if_neg g2, if_neg g3, if_neg g4, if_neg g5]
  have hc : kind_Class.f a = some 0 := by
    unfold kind_Class.f
    rw [if_neg h1, if_neg h2, if_neg h3, if_neg h4, hk]
    rfl
  refine ⟨hc, hk, ?_⟩
  unfold kind_Takes.f
  rw [hc, hk]
  rfl

set_option maxHeartbeats 1000000 in
set_option maxRecDepth 100000 in
theorem once_11 (w : World) (a b : Int) (hc : Hid (kind_Class.f a = some 1)) (hk : Hid (kind_Kind.f a = some 1)) (ht : Hid (kind_Takes.f a = some true)) : Calls Try.prog 5 #[.int .u8 a, .int .u8 b] w (Yes w) := by
  go_enter Try.func5, Try.ntmps5
  go_wp2_with (go_at_call 14; (with_reducible refine (pannierlaw08_knows.calls true _ knows_true).mono ?_); rintro e w' ⟨rfl, ⟨nd, rfl⟩⟩)
  go_loopw [5, 9] (fun n x wr => ∃ k : Nat, k ≤ 256 ∧ x = .int .i64 k ∧ n = .int .i64 (cnt k) ∧ Drawn0 w wr) (fun _ x _ => 256 - (intOf x).toNat)
  case atStart => exact ⟨0, by omega, rfl, rfl, yes_of _ _⟩
  case round =>
    obtain ⟨k, hkk, rfl, rfl, hdr⟩ := hrel
    have hcl := cnt_le k
    by_cases hlt : k < 256
    · have hmod : ((k : Int) % 256) = k := by omega
      have HM := hid_ hmod
      clear hmod
      obtain ⟨c, hcc⟩ := class_some (k : Int)
      by_cases h0 : c = 0
      · subst h0
        have HC := hid_ hcc
        clear hcc
        go_wp2_with (go_at_call 15; (with_reducible refine (kind_Class.calls ((k : Int)) 0 _ HC.out).mono ?_); rintro e w' ⟨rfl, ⟨nd, rfl⟩⟩)
        go_roundw
        case rel => exact ⟨k + 1, by omega, by go_num, by simp only [cnt, HC.out, if_true, Int.add_zero], hdr.step _⟩
        case measure => simp [intOf]; omega
      · have b0 : (c == 0) = false := by simpa using h0
        have b1 : (c != 0) = true := by simpa using h0
        have HC := hid_ hcc
        clear hcc h0
        go_wp2_with (go_at_call 15; (with_reducible refine (kind_Class.calls ((k : Int)) c _ HC.out).mono ?_); rintro e w' ⟨rfl, ⟨nd, rfl⟩⟩)
        go_roundw
        case rel => exact ⟨k + 1, by omega, by go_num, by simp only [cnt, HC.out]; rw [if_neg (by simpa using b0)], hdr.step _⟩
        case measure => simp [intOf]; omega
    · have e10 : cnt k = 10 := by
        obtain rfl : k = 256 := by omega
        exact cnt_all
      rw [e10]
      clear hcl e10
      obtain ⟨n, rfl⟩ := hdr.out
      clear hdr
      go_wp2_with (first | (go_at_call 15; (with_reducible refine (kind_Class.calls a 1 _ hc.out).mono ?_); rintro e w' ⟨rfl, ⟨nd, rfl⟩⟩) | (go_at_call 16; (with_reducible refine (kind_Kind.calls a 1 _ hk.out).mono ?_); rintro e w' ⟨rfl, ⟨nd, rfl⟩⟩) | (go_at_call 17; (with_reducible refine (kind_Takes.calls a true _ ht.out).mono ?_); rintro e w' ⟨rfl, ⟨nd, rfl⟩⟩))
      go_ret
      exact ⟨rfl, by repeat (first | exact Drawn0.refl _ | apply Drawn0.step)⟩

set_option maxHeartbeats 1000000 in
set_option maxRecDepth 100000 in
theorem once_12 (w : World) (a b : Int) (hc : Hid (kind_Class.f a = some 1)) (hk : Hid (kind_Kind.f a = some 2)) (ht : Hid (kind_Takes.f a = some false)) : Calls Try.prog 5 #[.int .u8 a, .int .u8 b] w (Yes w) := by
  go_enter Try.func5, Try.ntmps5
  go_wp2_with (go_at_call 14; (with_reducible refine (pannierlaw08_knows.calls true _ knows_true).mono ?_); rintro e w' ⟨rfl, ⟨nd, rfl⟩⟩)
  go_loopw [5, 9] (fun n x wr => ∃ k : Nat, k ≤ 256 ∧ x = .int .i64 k ∧ n = .int .i64 (cnt k) ∧ Drawn0 w wr) (fun _ x _ => 256 - (intOf x).toNat)
  case atStart => exact ⟨0, by omega, rfl, rfl, yes_of _ _⟩
  case round =>
    obtain ⟨k, hkk, rfl, rfl, hdr⟩ := hrel
    have hcl := cnt_le k
    by_cases hlt : k < 256
    · have hmod : ((k : Int) % 256) = k := by omega
      have HM := hid_ hmod
      clear hmod
      obtain ⟨c, hcc⟩ := class_some (k : Int)
      by_cases h0 : c = 0
      · subst h0
        have HC := hid_ hcc
        clear hcc
        go_wp2_with (go_at_call 15; (with_reducible refine (kind_Class.calls ((k : Int)) 0 _ HC.out).mono ?_); rintro e w' ⟨rfl, ⟨nd, rfl⟩⟩)
        go_roundw
        case rel => exact ⟨k + 1, by omega, by go_num, by simp only [cnt, HC.out, if_true, Int.add_zero], hdr.step _⟩
        case measure => simp [intOf]; omega
      · have b0 : (c == 0) = false := by simpa using h0
        have b1 : (c != 0) = true := by simpa using h0
        have HC := hid_ hcc
        clear hcc h0
        go_wp2_with (go_at_call 15; (with_reducible refine (kind_Class.calls ((k : Int)) c _ HC.out).mono ?_); rintro e w' ⟨rfl, ⟨nd, rfl⟩⟩)
        go_roundw
        case rel => exact ⟨k + 1, by omega, by go_num, by simp only [cnt, HC.out]; rw [if_neg (by simpa using b0)], hdr.step _⟩
        case measure => simp [intOf]; omega
    · have e10 : cnt k = 10 := by
        obtain rfl : k = 256 := by omega
        exact cnt_all
      rw [e10]
      clear hcl e10
      obtain ⟨n, rfl⟩ := hdr.out
      clear hdr
      go_wp2_with (first | (go_at_call 15; (with_reducible refine (kind_Class.calls a 1 _ hc.out).mono ?_); rintro e w' ⟨rfl, ⟨nd, rfl⟩⟩) | (go_at_call 16; (with_reducible refine (kind_Kind.calls a 2 _ hk.out).mono ?_); rintro e w' ⟨rfl, ⟨nd, rfl⟩⟩) | (go_at_call 17; (with_reducible refine (kind_Takes.calls a false _ ht.out).mono ?_); rintro e w' ⟨rfl, ⟨nd, rfl⟩⟩))
      go_ret
      exact ⟨rfl, by repeat (first | exact Drawn0.refl _ | apply Drawn0.step)⟩

set_option maxHeartbeats 1000000 in
set_option maxRecDepth 100000 in
theorem once_13 (w : World) (a b : Int) (hc : Hid (kind_Class.f a = some 1)) (hk : Hid (kind_Kind.f a = some 3)) (ht : Hid (kind_Takes.f a = some false)) : Calls Try.prog 5 #[.int .u8 a, .int .u8 b] w (Yes w) := by
  go_enter Try.func5, Try.ntmps5
  go_wp2_with (go_at_call 14; (with_reducible refine (pannierlaw08_knows.calls true _ knows_true).mono ?_); rintro e w' ⟨rfl, ⟨nd, rfl⟩⟩)
  go_loopw [5, 9] (fun n x wr => ∃ k : Nat, k ≤ 256 ∧ x = .int .i64 k ∧ n = .int .i64 (cnt k) ∧ Drawn0 w wr) (fun _ x _ => 256 - (intOf x).toNat)
  case atStart => exact ⟨0, by omega, rfl, rfl, yes_of _ _⟩
  case round =>
    obtain ⟨k, hkk, rfl, rfl, hdr⟩ := hrel
    have hcl := cnt_le k
    by_cases hlt : k < 256
    · have hmod : ((k : Int) % 256) = k := by omega
      have HM := hid_ hmod
      clear hmod
      obtain ⟨c, hcc⟩ := class_some (k : Int)
      by_cases h0 : c = 0
      · subst h0
        have HC := hid_ hcc
        clear hcc
        go_wp2_with (go_at_call 15; (with_reducible refine (kind_Class.calls ((k : Int)) 0 _ HC.out).mono ?_); rintro e w' ⟨rfl, ⟨nd, rfl⟩⟩)
        go_roundw
        case rel => exact ⟨k + 1, by omega, by go_num, by simp only [cnt, HC.out, if_true, Int.add_zero], hdr.step _⟩
        case measure => simp [intOf]; omega
      · have b0 : (c == 0) = false := by simpa using h0
        have b1 : (c != 0) = true := by simpa using h0
        have HC := hid_ hcc
        clear hcc h0
        go_wp2_with (go_at_call 15; (with_reducible refine (kind_Class.calls ((k : Int)) c _ HC.out).mono ?_); rintro e w' ⟨rfl, ⟨nd, rfl⟩⟩)
        go_roundw
        case rel => exact ⟨k + 1, by omega, by go_num, by simp only [cnt, HC.out]; rw [if_neg (by simpa using b0)], hdr.step _⟩
        case measure => simp [intOf]; omega
    · have e10 : cnt k = 10 := by
        obtain rfl : k = 256 := by omega
        exact cnt_all
      rw [e10]
      clear hcl e10
      obtain ⟨n, rfl⟩ := hdr.out
      clear hdr
      go_wp2_with (first | (go_at_call 15; (with_reducible refine (kind_Class.calls a 1 _ hc.out).mono ?_); rintro e w' ⟨rfl, ⟨nd, rfl⟩⟩) | (go_at_call 16; (with_reducible refine (kind_Kind.calls a 3 _ hk.out).mono ?_); rintro e w' ⟨rfl, ⟨nd, rfl⟩⟩) | (go_at_call 17; (with_reducible refine (kind_Takes.calls a false _ ht.out).mono ?_); rintro e w' ⟨rfl, ⟨nd, rfl⟩⟩))
      go_ret
      exact ⟨rfl, by repeat (first | exact Drawn0.refl _ | apply Drawn0.step)⟩

set_option maxHeartbeats 1000000 in
set_option maxRecDepth 100000 in
theorem once_14 (w : World) (a b : Int) (hc : Hid (kind_Class.f a = some 1)) (hk : Hid (kind_Kind.f a = some 4)) (ht : Hid (kind_Takes.f a = some false)) : Calls Try.prog 5 #[.int .u8 a, .int .u8 b] w (Yes w) := by
  go_enter Try.func5, Try.ntmps5
  go_wp2_with (go_at_call 14; (with_reducible refine (pannierlaw08_knows.calls true _ knows_true).mono ?_); rintro e w' ⟨rfl, ⟨nd, rfl⟩⟩)
  go_loopw [5, 9] (fun n x wr => ∃ k : Nat, k ≤ 256 ∧ x = .int .i64 k ∧ n = .int .i64 (cnt k) ∧ Drawn0 w wr) (fun _ x _ => 256 - (intOf x).toNat)
  case atStart => exact ⟨0, by omega, rfl, rfl, yes_of _ _⟩
  case round =>
    obtain ⟨k, hkk, rfl, rfl, hdr⟩ := hrel
    have hcl := cnt_le k
    by_cases hlt : k < 256
    · have hmod : ((k : Int) % 256) = k := by omega
      have HM := hid_ hmod
      clear hmod
      obtain ⟨c, hcc⟩ := class_some (k : Int)
      by_cases h0 : c = 0
      · subst h0
        have HC := hid_ hcc
        clear hcc
        go_wp2_with (go_at_call 15; (with_reducible refine (kind_Class.calls ((k : Int)) 0 _ HC.out).mono ?_); rintro e w' ⟨rfl, ⟨nd, rfl⟩⟩)
        go_roundw
        case rel => exact ⟨k + 1, by omega, by go_num, by simp only [cnt, HC.out, if_true, Int.add_zero], hdr.step _⟩
        case measure => simp [intOf]; omega
      · have b0 : (c == 0) = false := by simpa using h0
        have b1 : (c != 0) = true := by simpa using h0
        have HC := hid_ hcc
        clear hcc h0
        go_wp2_with (go_at_call 15; (with_reducible refine (kind_Class.calls ((k : Int)) c _ HC.out).mono ?_); rintro e w' ⟨rfl, ⟨nd, rfl⟩⟩)
        go_roundw
        case rel => exact ⟨k + 1, by omega, by go_num, by simp only [cnt, HC.out]; rw [if_neg (by simpa using b0)], hdr.step _⟩
        case measure => simp [intOf]; omega
    · have e10 : cnt k = 10 := by
        obtain rfl : k = 256 := by omega
        exact cnt_all
      rw [e10]
      clear hcl e10
      obtain ⟨n, rfl⟩ := hdr.out
      clear hdr
      go_wp2_with (first | (go_at_call 15; (with_reducible refine (kind_Class.calls a 1 _ hc.out).mono ?_); rintro e w' ⟨rfl, ⟨nd, rfl⟩⟩) | (go_at_call 16; (with_reducible refine (kind_Kind.calls a 4 _ hk.out).mono ?_); rintro e w' ⟨rfl, ⟨nd, rfl⟩⟩) | (go_at_call 17; (with_reducible refine (kind_Takes.calls a false _ ht.out).mono ?_); rintro e w' ⟨rfl, ⟨nd, rfl⟩⟩))
      go_ret
      exact ⟨rfl, by repeat (first | exact Drawn0.refl _ | apply Drawn0.step)⟩

set_option maxHeartbeats 1000000 in
set_option maxRecDepth 100000 in
theorem once_00 (w : World) (a b : Int) (hc : Hid (kind_Class.f a = some 0)) (hk : Hid (kind_Kind.f a = some 0)) (ht : Hid (kind_Takes.f a = some false)) : Calls Try.prog 5 #[.int .u8 a, .int .u8 b] w (Yes w) := by
  go_enter Try.func5, Try.ntmps5
  go_wp2_with (go_at_call 14; (with_reducible refine (pannierlaw08_knows.calls true _ knows_true).mono ?_); rintro e w' ⟨rfl, ⟨nd, rfl⟩⟩)
  go_loopw [5, 9] (fun n x wr => ∃ k : Nat, k ≤ 256 ∧ x = .int .i64 k ∧ n = .int .i64 (cnt k) ∧ Drawn0 w wr) (fun _ x _ => 256 - (intOf x).toNat)
  case atStart => exact ⟨0, by omega, rfl, rfl, yes_of _ _⟩
  case round =>
    obtain ⟨k, hkk, rfl, rfl, hdr⟩ := hrel
    have hcl := cnt_le k
    by_cases hlt : k < 256
    · have hmod : ((k : Int) % 256) = k := by omega
      have HM := hid_ hmod
      clear hmod
      obtain ⟨c, hcc⟩ := class_some (k : Int)
      by_cases h0 : c = 0
      · subst h0
        have HC := hid_ hcc
        clear hcc
        go_wp2_with (go_at_call 15; (with_reducible refine (kind_Class.calls ((k : Int)) 0 _ HC.out).mono ?_); rintro e w' ⟨rfl, ⟨nd, rfl⟩⟩)
        go_roundw
        case rel => exact ⟨k + 1, by omega, by go_num, by simp only [cnt, HC.out, if_true, Int.add_zero], hdr.step _⟩
        case measure => simp [intOf]; omega
      · have b0 : (c == 0) = false := by simpa using h0
        have b1 : (c != 0) = true := by simpa using h0
        have HC := hid_ hcc
        clear hcc h0
        go_wp2_with (go_at_call 15; (with_reducible refine (kind_Class.calls ((k : Int)) c _ HC.out).mono ?_); rintro e w' ⟨rfl, ⟨nd, rfl⟩⟩)
        go_roundw
        case rel => exact ⟨k + 1, by omega, by go_num, by simp only [cnt, HC.out]; rw [if_neg (by simpa using b0)], hdr.step _⟩
        case measure => simp [intOf]; omega
    · have e10 : cnt k = 10 := by
        obtain rfl : k = 256 := by omega
        exact cnt_all
      rw [e10]
      clear hcl e10
      obtain ⟨n, rfl⟩ := hdr.out
      clear hdr
      go_wp2_with (first | (go_at_call 15; (with_reducible refine (kind_Class.calls a 0 _ hc.out).mono ?_); rintro e w' ⟨rfl, ⟨nd, rfl⟩⟩) | (go_at_call 16; (with_reducible refine (kind_Kind.calls a 0 _ hk.out).mono ?_); rintro e w' ⟨rfl, ⟨nd, rfl⟩⟩) | (go_at_call 17; (with_reducible refine (kind_Takes.calls a false _ ht.out).mono ?_); rintro e w' ⟨rfl, ⟨nd, rfl⟩⟩))
      go_ret
      exact ⟨rfl, by repeat (first | exact Drawn0.refl _ | apply Drawn0.step)⟩

set_option maxHeartbeats 1000000 in
set_option maxRecDepth 100000 in
theorem once_2_ne (w : World) (a b : Int) (hc : Hid (kind_Class.f a = some 2)) (hk : Hid (kind_Kind.f a = some 0)) (ht : Hid (kind_Takes.f a = some true)) (d : Int) (hd : Hid (kind_Class.f b = some d)) (g : ((2 : Int) == d) = false) : Calls Try.prog 5 #[.int .u8 a, .int .u8 b] w (Yes w) := by
  go_enter Try.func5, Try.ntmps5
  go_wp2_with (go_at_call 14; (with_reducible refine (pannierlaw08_knows.calls true _ knows_true).mono ?_); rintro e w' ⟨rfl, ⟨nd, rfl⟩⟩)
  go_loopw [5, 9] (fun n x wr => ∃ k : Nat, k ≤ 256 ∧ x = .int .i64 k ∧ n = .int .i64 (cnt k) ∧ Drawn0 w wr) (fun _ x _ => 256 - (intOf x).toNat)
  case atStart => exact ⟨0, by omega, rfl, rfl, yes_of _ _⟩
  case round =>
    obtain ⟨k, hkk, rfl, rfl, hdr⟩ := hrel
    have hcl := cnt_le k
    by_cases hlt : k < 256
    · have hmod : ((k : Int) % 256) = k := by omega
      have HM := hid_ hmod
      clear hmod
      obtain ⟨c, hcc⟩ := class_some (k : Int)
      by_cases h0 : c = 0
      · subst h0
        have HC := hid_ hcc
        clear hcc
        go_wp2_with (go_at_call 15; (with_reducible refine (kind_Class.calls ((k : Int)) 0 _ HC.out).mono ?_); rintro e w' ⟨rfl, ⟨nd, rfl⟩⟩)
        go_roundw
        case rel => exact ⟨k + 1, by omega, by go_num, by simp only [cnt, HC.out, if_true, Int.add_zero], hdr.step _⟩
        case measure => simp [intOf]; omega
      · have b0 : (c == 0) = false := by simpa using h0
        have b1 : (c != 0) = true := by simpa using h0
        have HC := hid_ hcc
        clear hcc h0
        go_wp2_with (go_at_call 15; (with_reducible refine (kind_Class.calls ((k : Int)) c _ HC.out).mono ?_); rintro e w' ⟨rfl, ⟨nd, rfl⟩⟩)
        go_roundw
        case rel => exact ⟨k + 1, by omega, by go_num, by simp only [cnt, HC.out]; rw [if_neg (by simpa using b0)], hdr.step _⟩
        case measure => simp [intOf]; omega
    · have e10 : cnt k = 10 := by
        obtain rfl : k = 256 := by omega
        exact cnt_all
      rw [e10]
      clear hcl e10
      obtain ⟨n, rfl⟩ := hdr.out
      clear hdr
      go_wp2_with (first | (go_at_call 15; (with_reducible refine (kind_Class.calls a 2 _ hc.out).mono ?_); rintro e w' ⟨rfl, ⟨nd, rfl⟩⟩) | (go_at_call 15; (with_reducible refine (kind_Class.calls b d _ hd.out).mono ?_); rintro e w' ⟨rfl, ⟨nd, rfl⟩⟩) | (go_at_call 16; (with_reducible refine (kind_Kind.calls a 0 _ hk.out).mono ?_); rintro e w' ⟨rfl, ⟨nd, rfl⟩⟩) | (go_at_call 17; (with_reducible refine (kind_Takes.calls a true _ ht.out).mono ?_); rintro e w' ⟨rfl, ⟨nd, rfl⟩⟩))
      go_ret
      exact ⟨rfl, by repeat (first | exact Drawn0.refl _ | apply Drawn0.step)⟩

set_option maxHeartbeats 1000000 in
set_option maxRecDepth 100000 in
theorem once_2_eq (w : World) (a b : Int) (hc : Hid (kind_Class.f a = some 2)) (hk : Hid (kind_Kind.f a = some 0)) (ht : Hid (kind_Takes.f a = some true)) (hd : Hid (kind_Class.f b = some 2)) (g : (a != b) = false) : Calls Try.prog 5 #[.int .u8 a, .int .u8 b] w (Yes w) := by
  go_enter Try.func5, Try.ntmps5
  go_wp2_with (go_at_call 14; (with_reducible refine (pannierlaw08_knows.calls true _ knows_true).mono ?_); rintro e w' ⟨rfl, ⟨nd, rfl⟩⟩)
  go_loopw [5, 9] (fun n x wr => ∃ k : Nat, k ≤ 256 ∧ x = .int .i64 k ∧ n = .int .i64 (cnt k) ∧ Drawn0 w wr) (fun _ x _ => 256 - (intOf x).toNat)
  case atStart => exact ⟨0, by omega, rfl, rfl, yes_of _ _⟩
  case round =>
    obtain ⟨k, hkk, rfl, rfl, hdr⟩ := hrel
    have hcl := cnt_le k
    by_cases hlt : k < 256
    · have hmod : ((k : Int) % 256) = k := by omega
      have HM := hid_ hmod
      clear hmod
      obtain ⟨c, hcc⟩ := class_some (k : Int)
      by_cases h0 : c = 0
      · subst h0
        have HC := hid_ hcc
        clear hcc
        go_wp2_with (go_at_call 15; (with_reducible refine (kind_Class.calls ((k : Int)) 0 _ HC.out).mono ?_); rintro e w' ⟨rfl, ⟨nd, rfl⟩⟩)
        go_roundw
        case rel => exact ⟨k + 1, by omega, by go_num, by simp only [cnt, HC.out, if_true, Int.add_zero], hdr.step _⟩
        case measure => simp [intOf]; omega
      · have b0 : (c == 0) = false := by simpa using h0
        have b1 : (c != 0) = true := by simpa using h0
        have HC := hid_ hcc
        clear hcc h0
        go_wp2_with (go_at_call 15; (with_reducible refine (kind_Class.calls ((k : Int)) c _ HC.out).mono ?_); rintro e w' ⟨rfl, ⟨nd, rfl⟩⟩)
        go_roundw
        case rel => exact ⟨k + 1, by omega, by go_num, by simp only [cnt, HC.out]; rw [if_neg (by simpa using b0)], hdr.step _⟩
        case measure => simp [intOf]; omega
    · have e10 : cnt k = 10 := by
        obtain rfl : k = 256 := by omega
        exact cnt_all
      rw [e10]
      clear hcl e10
      obtain ⟨n, rfl⟩ := hdr.out
      clear hdr
      go_wp2_with (first | (go_at_call 15; (with_reducible refine (kind_Class.calls a 2 _ hc.out).mono ?_); rintro e w' ⟨rfl, ⟨nd, rfl⟩⟩) | (go_at_call 15; (with_reducible refine (kind_Class.calls b 2 _ hd.out).mono ?_); rintro e w' ⟨rfl, ⟨nd, rfl⟩⟩) | (go_at_call 16; (with_reducible refine (kind_Kind.calls a 0 _ hk.out).mono ?_); rintro e w' ⟨rfl, ⟨nd, rfl⟩⟩) | (go_at_call 17; (with_reducible refine (kind_Takes.calls a true _ ht.out).mono ?_); rintro e w' ⟨rfl, ⟨nd, rfl⟩⟩))
      go_ret
      exact ⟨rfl, by repeat (first | exact Drawn0.refl _ | apply Drawn0.step)⟩

set_option maxHeartbeats 1000000 in
set_option maxRecDepth 100000 in
theorem once_3_ne (w : World) (a b : Int) (hc : Hid (kind_Class.f a = some 3)) (hk : Hid (kind_Kind.f a = some 0)) (ht : Hid (kind_Takes.f a = some true)) (d : Int) (hd : Hid (kind_Class.f b = some d)) (g : ((3 : Int) == d) = false) : Calls Try.prog 5 #[.int .u8 a, .int .u8 b] w (Yes w) := by
  go_enter Try.func5, Try.ntmps5
  go_wp2_with (go_at_call 14; (with_reducible refine (pannierlaw08_knows.calls true _ knows_true).mono ?_); rintro e w' ⟨rfl, ⟨nd, rfl⟩⟩)
  go_loopw [5, 9] (fun n x wr => ∃ k : Nat, k ≤ 256 ∧ x = .int .i64 k ∧ n = .int .i64 (cnt k) ∧ Drawn0 w wr) (fun _ x _ => 256 - (intOf x).toNat)
  case atStart => exact ⟨0, by omega, rfl, rfl, yes_of _ _⟩
  case round =>
    obtain ⟨k, hkk, rfl, rfl, hdr⟩ := hrel
    have hcl := cnt_le k
    by_cases hlt : k < 256
    · have hmod : ((k : Int) % 256) = k := by omega
      have HM := hid_ hmod
      clear hmod
      obtain ⟨c, hcc⟩ := class_some (k : Int)
      by_cases h0 : c = 0
      · subst h0
        have HC := hid_ hcc
        clear hcc
        go_wp2_with (go_at_call 15; (with_reducible refine (kind_Class.calls ((k : Int)) 0 _ HC.out).mono ?_); rintro e w' ⟨rfl, ⟨nd, rfl⟩⟩)
        go_roundw
        case rel => exact ⟨k + 1, by omega, by go_num, by simp only [cnt, HC.out, if_true, Int.add_zero], hdr.step _⟩
        case measure => simp [intOf]; omega
      · have b0 : (c == 0) = false := by simpa using h0
        have b1 : (c != 0) = true := by simpa using h0
        have HC := hid_ hcc
        clear hcc h0
        go_wp2_with (go_at_call 15; (with_reducible refine (kind_Class.calls ((k : Int)) c _ HC.out).mono ?_); rintro e w' ⟨rfl, ⟨nd, rfl⟩⟩)
        go_roundw
        case rel => exact ⟨k + 1, by omega, by go_num, by simp only [cnt, HC.out]; rw [if_neg (by simpa using b0)], hdr.step _⟩
        case measure => simp [intOf]; omega
    · have e10 : cnt k = 10 := by
        obtain rfl : k = 256 := by omega
        exact cnt_all
      rw [e10]
      clear hcl e10
      obtain ⟨n, rfl⟩ := hdr.out
      clear hdr
      go_wp2_with (first | (go_at_call 15; (with_reducible refine (kind_Class.calls a 3 _ hc.out).mono ?_); rintro e w' ⟨rfl, ⟨nd, rfl⟩⟩) | (go_at_call 15; (with_reducible refine (kind_Class.calls b d _ hd.out).mono ?_); rintro e w' ⟨rfl, ⟨nd, rfl⟩⟩) | (go_at_call 16; (with_reducible refine (kind_Kind.calls a 0 _ hk.out).mono ?_); rintro e w' ⟨rfl, ⟨nd, rfl⟩⟩) | (go_at_call 17; (with_reducible refine (kind_Takes.calls a true _ ht.out).mono ?_); rintro e w' ⟨rfl, ⟨nd, rfl⟩⟩))
      go_ret
      exact ⟨rfl, by repeat (first | exact Drawn0.refl _ | apply Drawn0.step)⟩

set_option maxHeartbeats 1000000 in
set_option maxRecDepth 100000 in
theorem once_3_eq (w : World) (a b : Int) (hc : Hid (kind_Class.f a = some 3)) (hk : Hid (kind_Kind.f a = some 0)) (ht : Hid (kind_Takes.f a = some true)) (hd : Hid (kind_Class.f b = some 3)) (g : (a != b) = false) : Calls Try.prog 5 #[.int .u8 a, .int .u8 b] w (Yes w) := by
  go_enter Try.func5, Try.ntmps5
  go_wp2_with (go_at_call 14; (with_reducible refine (pannierlaw08_knows.calls true _ knows_true).mono ?_); rintro e w' ⟨rfl, ⟨nd, rfl⟩⟩)
  go_loopw [5, 9] (fun n x wr => ∃ k : Nat, k ≤ 256 ∧ x = .int .i64 k ∧ n = .int .i64 (cnt k) ∧ Drawn0 w wr) (fun _ x _ => 256 - (intOf x).toNat)
  case atStart => exact ⟨0, by omega, rfl, rfl, yes_of _ _⟩
  case round =>
    obtain ⟨k, hkk, rfl, rfl, hdr⟩ := hrel
    have hcl := cnt_le k
    by_cases hlt : k < 256
    · have hmod : ((k : Int) % 256) = k := by omega
      have HM := hid_ hmod
      clear hmod
      obtain ⟨c, hcc⟩ := class_some (k : Int)
      by_cases h0 : c = 0
      · subst h0
        have HC := hid_ hcc
        clear hcc
        go_wp2_with (go_at_call 15; (with_reducible refine (kind_Class.calls ((k : Int)) 0 _ HC.out).mono ?_); rintro e w' ⟨rfl, ⟨nd, rfl⟩⟩)
        go_roundw
        case rel => exact ⟨k + 1, by omega, by go_num, by simp only [cnt, HC.out, if_true, Int.add_zero], hdr.step _⟩
        case measure => simp [intOf]; omega
      · have b0 : (c == 0) = false := by simpa using h0
        have b1 : (c != 0) = true := by simpa using h0
        have HC := hid_ hcc
        clear hcc h0
        go_wp2_with (go_at_call 15; (with_reducible refine (kind_Class.calls ((k : Int)) c _ HC.out).mono ?_); rintro e w' ⟨rfl, ⟨nd, rfl⟩⟩)
        go_roundw
        case rel => exact ⟨k + 1, by omega, by go_num, by simp only [cnt, HC.out]; rw [if_neg (by simpa using b0)], hdr.step _⟩
        case measure => simp [intOf]; omega
    · have e10 : cnt k = 10 := by
        obtain rfl : k = 256 := by omega
        exact cnt_all
      rw [e10]
      clear hcl e10
      obtain ⟨n, rfl⟩ := hdr.out
      clear hdr
      go_wp2_with (first | (go_at_call 15; (with_reducible refine (kind_Class.calls a 3 _ hc.out).mono ?_); rintro e w' ⟨rfl, ⟨nd, rfl⟩⟩) | (go_at_call 15; (with_reducible refine (kind_Class.calls b 3 _ hd.out).mono ?_); rintro e w' ⟨rfl, ⟨nd, rfl⟩⟩) | (go_at_call 16; (with_reducible refine (kind_Kind.calls a 0 _ hk.out).mono ?_); rintro e w' ⟨rfl, ⟨nd, rfl⟩⟩) | (go_at_call 17; (with_reducible refine (kind_Takes.calls a true _ ht.out).mono ?_); rintro e w' ⟨rfl, ⟨nd, rfl⟩⟩))
      go_ret
      exact ⟨rfl, by repeat (first | exact Drawn0.refl _ | apply Drawn0.step)⟩

set_option maxHeartbeats 1000000 in
set_option maxRecDepth 100000 in
theorem once_4_ne (w : World) (a b : Int) (hc : Hid (kind_Class.f a = some 4)) (hk : Hid (kind_Kind.f a = some 0)) (ht : Hid (kind_Takes.f a = some true)) (d : Int) (hd : Hid (kind_Class.f b = some d)) (g : ((4 : Int) == d) = false) : Calls Try.prog 5 #[.int .u8 a, .int .u8 b] w (Yes w) := by
  go_enter Try.func5, Try.ntmps5
  go_wp2_with (go_at_call 14; (with_reducible refine (pannierlaw08_knows.calls true _ knows_true).mono ?_); rintro e w' ⟨rfl, ⟨nd, rfl⟩⟩)
  go_loopw [5, 9] (fun n x wr => ∃ k : Nat, k ≤ 256 ∧ x = .int .i64 k ∧ n = .int .i64 (cnt k) ∧ Drawn0 w wr) (fun _ x _ => 256 - (intOf x).toNat)
  case atStart => exact ⟨0, by omega, rfl, rfl, yes_of _ _⟩
  case round =>
    obtain ⟨k, hkk, rfl, rfl, hdr⟩ := hrel
    have hcl := cnt_le k
    by_cases hlt : k < 256
    · have hmod : ((k : Int) % 256) = k := by omega
      have HM := hid_ hmod
      clear hmod
      obtain ⟨c, hcc⟩ := class_some (k : Int)
      by_cases h0 : c = 0
      · subst h0
        have HC := hid_ hcc
        clear hcc
        go_wp2_with (go_at_call 15; (with_reducible refine (kind_Class.calls ((k : Int)) 0 _ HC.out).mono ?_); rintro e w' ⟨rfl, ⟨nd, rfl⟩⟩)
        go_roundw
        case rel => exact ⟨k + 1, by omega, by go_num, by simp only [cnt, HC.out, if_true, Int.add_zero], hdr.step _⟩
        case measure => simp [intOf]; omega
      · have b0 : (c == 0) = false := by simpa using h0
        have b1 : (c != 0) = true := by simpa using h0
        have HC := hid_ hcc
        clear hcc h0
        go_wp2_with (go_at_call 15; (with_reducible refine (kind_Class.calls ((k : Int)) c _ HC.out).mono ?_); rintro e w' ⟨rfl, ⟨nd, rfl⟩⟩)
        go_roundw
        case rel => exact ⟨k + 1, by omega, by go_num, by simp only [cnt, HC.out]; rw [if_neg (by simpa using b0)], hdr.step _⟩
        case measure => simp [intOf]; omega
    · have e10 : cnt k = 10 := by
        obtain rfl : k = 256 := by omega
        exact cnt_all
      rw [e10]
      clear hcl e10
      obtain ⟨n, rfl⟩ := hdr.out
      clear hdr
      go_wp2_with (first | (go_at_call 15; (with_reducible refine (kind_Class.calls a 4 _ hc.out).mono ?_); rintro e w' ⟨rfl, ⟨nd, rfl⟩⟩) | (go_at_call 15; (with_reducible refine (kind_Class.calls b d _ hd.out).mono ?_); rintro e w' ⟨rfl, ⟨nd, rfl⟩⟩) | (go_at_call 16; (with_reducible refine (kind_Kind.calls a 0 _ hk.out).mono ?_); rintro e w' ⟨rfl, ⟨nd, rfl⟩⟩) | (go_at_call 17; (with_reducible refine (kind_Takes.calls a true _ ht.out).mono ?_); rintro e w' ⟨rfl, ⟨nd, rfl⟩⟩))
      go_ret
      exact ⟨rfl, by repeat (first | exact Drawn0.refl _ | apply Drawn0.step)⟩

set_option maxHeartbeats 1000000 in
set_option maxRecDepth 100000 in
theorem once_4_eq (w : World) (a b : Int) (hc : Hid (kind_Class.f a = some 4)) (hk : Hid (kind_Kind.f a = some 0)) (ht : Hid (kind_Takes.f a = some true)) (hd : Hid (kind_Class.f b = some 4)) (g : (a != b) = false) : Calls Try.prog 5 #[.int .u8 a, .int .u8 b] w (Yes w) := by
  go_enter Try.func5, Try.ntmps5
  go_wp2_with (go_at_call 14; (with_reducible refine (pannierlaw08_knows.calls true _ knows_true).mono ?_); rintro e w' ⟨rfl, ⟨nd, rfl⟩⟩)
  go_loopw [5, 9] (fun n x wr => ∃ k : Nat, k ≤ 256 ∧ x = .int .i64 k ∧ n = .int .i64 (cnt k) ∧ Drawn0 w wr) (fun _ x _ => 256 - (intOf x).toNat)
  case atStart => exact ⟨0, by omega, rfl, rfl, yes_of _ _⟩
  case round =>
    obtain ⟨k, hkk, rfl, rfl, hdr⟩ := hrel
    have hcl := cnt_le k
    by_cases hlt : k < 256
    · have hmod : ((k : Int) % 256) = k := by omega
      have HM := hid_ hmod
      clear hmod
      obtain ⟨c, hcc⟩ := class_some (k : Int)
      by_cases h0 : c = 0
      · subst h0
        have HC := hid_ hcc
        clear hcc
        go_wp2_with (go_at_call 15; (with_reducible refine (kind_Class.calls ((k : Int)) 0 _ HC.out).mono ?_); rintro e w' ⟨rfl, ⟨nd, rfl⟩⟩)
        go_roundw
        case rel => exact ⟨k + 1, by omega, by go_num, by simp only [cnt, HC.out, if_true, Int.add_zero], hdr.step _⟩
        case measure => simp [intOf]; omega
      · have b0 : (c == 0) = false := by simpa using h0
        have b1 : (c != 0) = true := by simpa using h0
        have HC := hid_ hcc
        clear hcc h0
        go_wp2_with (go_at_call 15; (with_reducible refine (kind_Class.calls ((k : Int)) c _ HC.out).mono ?_); rintro e w' ⟨rfl, ⟨nd, rfl⟩⟩)
        go_roundw
        case rel => exact ⟨k + 1, by omega, by go_num, by simp only [cnt, HC.out]; rw [if_neg (by simpa using b0)], hdr.step _⟩
        case measure => simp [intOf]; omega
    · have e10 : cnt k = 10 := by
        obtain rfl : k = 256 := by omega
        exact cnt_all
      rw [e10]
      clear hcl e10
      obtain ⟨n, rfl⟩ := hdr.out
      clear hdr
      go_wp2_with (first | (go_at_call 15; (with_reducible refine (kind_Class.calls a 4 _ hc.out).mono ?_); rintro e w' ⟨rfl, ⟨nd, rfl⟩⟩) | (go_at_call 15; (with_reducible refine (kind_Class.calls b 4 _ hd.out).mono ?_); rintro e w' ⟨rfl, ⟨nd, rfl⟩⟩) | (go_at_call 16; (with_reducible refine (kind_Kind.calls a 0 _ hk.out).mono ?_); rintro e w' ⟨rfl, ⟨nd, rfl⟩⟩) | (go_at_call 17; (with_reducible refine (kind_Takes.calls a true _ ht.out).mono ?_); rintro e w' ⟨rfl, ⟨nd, rfl⟩⟩))
      go_ret
      exact ⟨rfl, by repeat (first | exact Drawn0.refl _ | apply Drawn0.step)⟩

set_option maxHeartbeats 1000000 in
set_option maxRecDepth 100000 in
theorem once_5_ne (w : World) (a b : Int) (hc : Hid (kind_Class.f a = some 5)) (hk : Hid (kind_Kind.f a = some 0)) (ht : Hid (kind_Takes.f a = some true)) (d : Int) (hd : Hid (kind_Class.f b = some d)) (g : ((5 : Int) == d) = false) : Calls Try.prog 5 #[.int .u8 a, .int .u8 b] w (Yes w) := by
  go_enter Try.func5, Try.ntmps5
  go_wp2_with (go_at_call 14; (with_reducible refine (pannierlaw08_knows.calls true _ knows_true).mono ?_); rintro e w' ⟨rfl, ⟨nd, rfl⟩⟩)
  go_loopw [5, 9] (fun n x wr => ∃ k : Nat, k ≤ 256 ∧ x = .int .i64 k ∧ n = .int .i64 (cnt k) ∧ Drawn0 w wr) (fun _ x _ => 256 - (intOf x).toNat)
  case atStart => exact ⟨0, by omega, rfl, rfl, yes_of _ _⟩
  case round =>
    obtain ⟨k, hkk, rfl, rfl, hdr⟩ := hrel
    have hcl := cnt_le k
    by_cases hlt : k < 256
    · have hmod : ((k : Int) % 256) = k := by omega
      have HM := hid_ hmod
      clear hmod
      obtain ⟨c, hcc⟩ := class_some (k : Int)
      by_cases h0 : c = 0
      · subst h0
        have HC := hid_ hcc
        clear hcc
        go_wp2_with (go_at_call 15; (with_reducible refine (kind_Class.calls ((k : Int)) 0 _ HC.out).mono ?_); rintro e w' ⟨rfl, ⟨nd, rfl⟩⟩)
        go_roundw
        case rel => exact ⟨k + 1, by omega, by go_num, by simp only [cnt, HC.out, if_true, Int.add_zero], hdr.step _⟩
        case measure => simp [intOf]; omega
      · have b0 : (c == 0) = false := by simpa using h0
        have b1 : (c != 0) = true := by simpa using h0
        have HC := hid_ hcc
        clear hcc h0
        go_wp2_with (go_at_call 15; (with_reducible refine (kind_Class.calls ((k : Int)) c _ HC.out).mono ?_); rintro e w' ⟨rfl, ⟨nd, rfl⟩⟩)
        go_roundw
        case rel => exact ⟨k + 1, by omega, by go_num, by simp only [cnt, HC.out]; rw [if_neg (by simpa using b0)], hdr.step _⟩
        case measure => simp [intOf]; omega
    · have e10 : cnt k = 10 := by
        obtain rfl : k = 256 := by omega
        exact cnt_all
      rw [e10]
      clear hcl e10
      obtain ⟨n, rfl⟩ := hdr.out
      clear hdr
      go_wp2_with (first | (go_at_call 15; (with_reducible refine (kind_Class.calls a 5 _ hc.out).mono ?_); rintro e w' ⟨rfl, ⟨nd, rfl⟩⟩) | (go_at_call 15; (with_reducible refine (kind_Class.calls b d _ hd.out).mono ?_); rintro e w' ⟨rfl, ⟨nd, rfl⟩⟩) | (go_at_call 16; (with_reducible refine (kind_Kind.calls a 0 _ hk.out).mono ?_); rintro e w' ⟨rfl, ⟨nd, rfl⟩⟩) | (go_at_call 17; (with_reducible refine (kind_Takes.calls a true _ ht.out).mono ?_); rintro e w' ⟨rfl, ⟨nd, rfl⟩⟩))
      go_ret
      exact ⟨rfl, by repeat (first | exact Drawn0.refl _ | apply Drawn0.step)⟩

set_option maxHeartbeats 1000000 in
set_option maxRecDepth 100000 in
theorem once_5_eq (w : World) (a b : Int) (hc : Hid (kind_Class.f a = some 5)) (hk : Hid (kind_Kind.f a = some 0)) (ht : Hid (kind_Takes.f a = some true)) (hd : Hid (kind_Class.f b = some 5)) (g : (a != b) = false) : Calls Try.prog 5 #[.int .u8 a, .int .u8 b] w (Yes w) := by
  go_enter Try.func5, Try.ntmps5
  go_wp2_with (go_at_call 14; (with_reducible refine (pannierlaw08_knows.calls true _ knows_true).mono ?_); rintro e w' ⟨rfl, ⟨nd, rfl⟩⟩)
  go_loopw [5, 9] (fun n x wr => ∃ k : Nat, k ≤ 256 ∧ x = .int .i64 k ∧ n = .int .i64 (cnt k) ∧ Drawn0 w wr) (fun _ x _ => 256 - (intOf x).toNat)
  case atStart => exact ⟨0, by omega, rfl, rfl, yes_of _ _⟩
  case round =>
    obtain ⟨k, hkk, rfl, rfl, hdr⟩ := hrel
    have hcl := cnt_le k
    by_cases hlt : k < 256
    · have hmod : ((k : Int) % 256) = k := by omega
      have HM := hid_ hmod
      clear hmod
      obtain ⟨c, hcc⟩ := class_some (k : Int)
      by_cases h0 : c = 0
      · subst h0
        have HC := hid_ hcc
        clear hcc
        go_wp2_with (go_at_call 15; (with_reducible refine (kind_Class.calls ((k : Int)) 0 _ HC.out).mono ?_); rintro e w' ⟨rfl, ⟨nd, rfl⟩⟩)
        go_roundw
        case rel => exact ⟨k + 1, by omega, by go_num, by simp only [cnt, HC.out, if_true, Int.add_zero], hdr.step _⟩
        case measure => simp [intOf]; omega
      · have b0 : (c == 0) = false := by simpa using h0
        have b1 : (c != 0) = true := by simpa using h0
        have HC := hid_ hcc
        clear hcc h0
        go_wp2_with (go_at_call 15; (with_reducible refine (kind_Class.calls ((k : Int)) c _ HC.out).mono ?_); rintro e w' ⟨rfl, ⟨nd, rfl⟩⟩)
        go_roundw
        case rel => exact ⟨k + 1, by omega, by go_num, by simp only [cnt, HC.out]; rw [if_neg (by simpa using b0)], hdr.step _⟩
        case measure => simp [intOf]; omega
    · have e10 : cnt k = 10 := by
        obtain rfl : k = 256 := by omega
        exact cnt_all
      rw [e10]
      clear hcl e10
      obtain ⟨n, rfl⟩ := hdr.out
      clear hdr
      go_wp2_with (first | (go_at_call 15; (with_reducible refine (kind_Class.calls a 5 _ hc.out).mono ?_); rintro e w' ⟨rfl, ⟨nd, rfl⟩⟩) | (go_at_call 15; (with_reducible refine (kind_Class.calls b 5 _ hd.out).mono ?_); rintro e w' ⟨rfl, ⟨nd, rfl⟩⟩) | (go_at_call 16; (with_reducible refine (kind_Kind.calls a 0 _ hk.out).mono ?_); rintro e w' ⟨rfl, ⟨nd, rfl⟩⟩) | (go_at_call 17; (with_reducible refine (kind_Takes.calls a true _ ht.out).mono ?_); rintro e w' ⟨rfl, ⟨nd, rfl⟩⟩))
      go_ret
      exact ⟨rfl, by repeat (first | exact Drawn0.refl _ | apply Drawn0.step)⟩

theorem yes_all (a b : Int) (w : World) : Calls Try.prog 5 #[.int .u8 a, .int .u8 b] w (Yes w) := by
  obtain ⟨d, hd⟩ := class_some b
  rcases Is.parts a with ⟨h, ha⟩ | ⟨h, ha⟩ | ⟨h, ha⟩ | ⟨h, ha⟩ | h | h | h | h | h
  · by_cases e : d = 2
    · subst e
      refine once_2_eq w a b h.1 h.2.1 h.2.2 hd ?_
      rcases Is.parts b with ⟨g, hb⟩ | ⟨g, hb⟩ | ⟨g, hb⟩ | ⟨g, hb⟩ | g | g | g | g | g
      · subst ha; subst hb; rfl
      · exact absurd (g.1.symm.trans hd) (by decide)
      · exact absurd (g.1.symm.trans hd) (by decide)
      · exact absurd (g.1.symm.trans hd) (by decide)
      all_goals exact absurd (g.1.symm.trans hd) (by decide)
    · exact once_2_ne w a b h.1 h.2.1 h.2.2 d hd (by simpa using fun h => e h.symm)
  · by_cases e : d = 3
    · subst e
      refine once_3_eq w a b h.1 h.2.1 h.2.2 hd ?_
      rcases Is.parts b with ⟨g, hb⟩ | ⟨g, hb⟩ | ⟨g, hb⟩ | ⟨g, hb⟩ | g | g | g | g | g
      · exact absurd (g.1.symm.trans hd) (by decide)
      · subst ha; subst hb; rfl
      · exact absurd (g.1.symm.trans hd) (by decide)
      · exact absurd (g.1.symm.trans hd) (by decide)
      all_goals exact absurd (g.1.symm.trans hd) (by decide)
    · exact once_3_ne w a b h.1 h.2.1 h.2.2 d hd (by simpa using fun h => e h.symm)
  · by_cases e : d = 4
    · subst e
      refine once_4_eq w a b h.1 h.2.1 h.2.2 hd ?_
      rcases Is.parts b with ⟨g, hb⟩ | ⟨g, hb⟩ | ⟨g, hb⟩ | ⟨g, hb⟩ | g | g | g | g | g
      · exact absurd (g.1.symm.trans hd) (by decide)
      · exact absurd (g.1.symm.trans hd) (by decide)
      · subst ha; subst hb; rfl
      · exact absurd (g.1.symm.trans hd) (by decide)
      all_goals exact absurd (g.1.symm.trans hd) (by decide)
    · exact once_4_ne w a b h.1 h.2.1 h.2.2 d hd (by simpa using fun h => e h.symm)
  · by_cases e : d = 5
    · subst e
      refine once_5_eq w a b h.1 h.2.1 h.2.2 hd ?_
      rcases Is.parts b with ⟨g, hb⟩ | ⟨g, hb⟩ | ⟨g, hb⟩ | ⟨g, hb⟩ | g | g | g | g | g
      · exact absurd (g.1.symm.trans hd) (by decide)
      · exact absurd (g.1.symm.trans hd) (by decide)
      · exact absurd (g.1.symm.trans hd) (by decide)
      · subst ha; subst hb; rfl
      all_goals exact absurd (g.1.symm.trans hd) (by decide)
    · exact once_5_ne w a b h.1 h.2.1 h.2.2 d hd (by simpa using fun h => e h.symm)
  · exact once_11 w a b h.1 h.2.1 h.2.2
  · exact once_12 w a b h.1 h.2.1 h.2.2
  · exact once_13 w a b h.1 h.2.1 h.2.2
  · exact once_14 w a b h.1 h.2.1 h.2.2
  · exact once_00 w a b h.1 h.2.1 h.2.2

theorem walk (a b : Int) (w : World) : Calls Try.prog 5 #[.int .u8 a, .int .u8 b] w fun e w' => e = .returned (.bool true) ∧ Below w.heap.size w w' :=
  (yes_all a b w).mono fun _ _ ⟨he, hd⟩ => ⟨he, hd.below⟩

end Go.Proofs.Ytpdelappcgmadaa.KO
