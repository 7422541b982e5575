/- What a header's bytes say: its sum, its numbers, its name; and what they say with one byte turned. No condition. -/
import Derived.Test.YtfpfdnckibaldaaEq
set_option linter.unusedSimpArgs false
set_option linter.unusedVariables false
namespace Go.Proofs.Ytfpfdnckibaldaa.H
open Go.RowKit Go.Proofs.Ytfpfdnckibaldaa.M Go.Proofs.Ytfpfdnckibaldaa.O

theorem seal_len (D : Nat → UInt8) : (oct (ps D 512) 7 ++ [32]).length = 8 := by rw [List.length_append, oct_len (by omega)]; rfl

theorem sealed_in {D : Nat → UInt8} {i : Nat} (h : i < 148 ∨ 156 ≤ i) : sealed D i = D i := by
  unfold sealed
  rw [put_eq1, if_neg (by rw [seal_len]; omega)]

theorem sealed_ps {D E : Nat → UInt8} (h : ∀ i, i < 512 → E i = sealed D i) : ps E 512 = ps D 512 :=
  ps_congr fun i hi ho => by rw [h i hi, sealed_in ho]

/-- What is sealed bears its sum. -/
theorem sealed_sum {D E : Nat → UInt8} (h : ∀ i, i < 512 → E i = sealed D i) : Oct (seg E 148 8) (ps E 512) := by
  have hps := ps_le D 512
  have e : seg E 148 8 = oct (ps D 512) 7 ++ [32] := by
    rw [seg_congr (D' := put D 148 (oct (ps D 512) 7 ++ [32])) (o' := 148) (fun j hj => h _ (by omega))]
    exact seg_put (seal_len D)
  rw [e, sealed_ps h]
  exact oct_is (by omega) (by omega) (by omega) [32] (fun b hb => by rw [List.mem_singleton.1 hb]; exact .inr rfl)

theorem txt_pad {l : List UInt8} {k : Nat} (h : ∀ i : Nat, l[i]? ≠ some 0) : txt (l ++ List.replicate k 0) = l := by
  cases k with
  | zero =>
    rw [List.replicate_zero, List.append_nil]
    exact txt_all h
  | succ k =>
    rw [txt_take (o := l.length) (by rw [List.getElem?_append_right (Nat.le_refl _), Nat.sub_self]; rfl) (fun i hi => by rw [List.getElem?_append_left hi]; exact h i), List.take_left]

theorem seg_pad {D : Nat → UInt8} {o n : Nat} {l : List UInt8} (hl : l.length ≤ n) (h1 : ∀ i (hi : i < l.length), D (o + i) = l[i]) (h2 : ∀ i, l.length ≤ i → i < n → D (o + i) = 0) : seg D o n = l ++ List.replicate (n - l.length) 0 := by
  apply List.ext_getElem?
  intro i
  by_cases hi : i < n
  · rw [seg_get hi]
    by_cases hl2 : i < l.length
    · rw [List.getElem?_append_left hl2, List.getElem?_eq_getElem hl2, h1 i hl2]
    · rw [List.getElem?_append_right (by omega), List.getElem?_replicate, if_pos (by omega), h2 i (by omega) hi]
  · rw [List.getElem?_eq_none (by rw [seg_len]; omega), List.getElem?_eq_none (by rw [List.length_append, List.length_replicate]; omega)]

theorem put_get {D : Nat → UInt8} {o i : Nat} {l : List UInt8} (hi : i < l.length) : put D o l (o + i) = l[i] := by
  rw [put_eq1, if_pos (by omega), Nat.add_sub_cancel_left, List.getD_eq_getElem?_getD, List.getElem?_eq_getElem hi]
  rfl
theorem put_out {D : Nat → UInt8} {o i : Nat} {l : List UInt8} (h : ¬ (o ≤ i ∧ i < o + l.length)) : put D o l i = D i := by rw [put_eq1, if_neg h]

section
variable {h : Hd}
theorem stg_nm (i : Nat) (hi : i < 100) : stg h 5 i = put (fun _ => 0) 0 h.nm i := by
  show put (put (put (put (put (fun _ => 0) 0 h.nm) 157 h.lk) 265 h.us) 297 h.gr) 345 h.pr i = _
  rw [put_out (by omega), put_out (by omega), put_out (by omega), put_out (by omega)]
theorem stn_out (i : Nat) (hi : i < 100 ∨ 148 ≤ i) : stn h 5 i = stg h 5 i := by
  show put (put (put (put (put (stg h 5) 100 (oct _ 8)) 108 (oct _ 8)) 116 (oct _ 8)) 124 (oct _ 12)) 136 (oct _ 12) i = _
  rw [put_out (by rw [oct_len (by omega)]; omega), put_out (by rw [oct_len (by omega)]; omega), put_out (by rw [oct_len (by omega)]; omega), put_out (by rw [oct_len (by omega)]; omega), put_out (by rw [oct_len (by omega)]; omega)]

theorem stn_num (j : Nat) (hj : j < 5) (i : Nat) (hi : i < nw j) : stn h 5 (no j + i) = (oct (fnn h j).toNat (nw j)).getD i 0 := by
  have key : ∀ (D : Nat → UInt8) (o n w i : Nat), i < w → 1 ≤ w → put D o (oct n w) (o + i) = (oct n w).getD i 0 := fun D o n w i h1 h2 => by
    rw [put_eq1, if_pos (by rw [oct_len h2]; omega), Nat.add_sub_cancel_left]
  show put (put (put (put (put (stg h 5) 100 (oct (fnn h 0).toNat 8)) 108 (oct (fnn h 1).toNat 8)) 116 (oct (fnn h 2).toNat 8)) 124 (oct (fnn h 3).toNat 12)) 136 (oct (fnn h 4).toNat 12) (no j + i) = _
  match j, hj, hi with
  | 0, _, hi =>
    have hi : i < 8 := hi
    show put (put (put (put (put (stg h 5) 100 (oct (fnn h 0).toNat 8)) 108 (oct (fnn h 1).toNat 8)) 116 (oct (fnn h 2).toNat 8)) 124 (oct (fnn h 3).toNat 12)) 136 (oct (fnn h 4).toNat 12) (100 + i) = _
    rw [put_out (by rw [oct_len (by omega)]; omega), put_out (by rw [oct_len (by omega)]; omega), put_out (by rw [oct_len (by omega)]; omega), put_out (by rw [oct_len (by omega)]; omega), key _ _ _ _ _ hi (by omega)]
    rfl
  | 1, _, hi =>
    have hi : i < 8 := hi
    show put (put (put (put (put (stg h 5) 100 (oct (fnn h 0).toNat 8)) 108 (oct (fnn h 1).toNat 8)) 116 (oct (fnn h 2).toNat 8)) 124 (oct (fnn h 3).toNat 12)) 136 (oct (fnn h 4).toNat 12) (108 + i) = _
    rw [put_out (by rw [oct_len (by omega)]; omega), put_out (by rw [oct_len (by omega)]; omega), put_out (by rw [oct_len (by omega)]; omega), key _ _ _ _ _ hi (by omega)]
    rfl
  | 2, _, hi =>
    have hi : i < 8 := hi
    show put (put (put (put (put (stg h 5) 100 (oct (fnn h 0).toNat 8)) 108 (oct (fnn h 1).toNat 8)) 116 (oct (fnn h 2).toNat 8)) 124 (oct (fnn h 3).toNat 12)) 136 (oct (fnn h 4).toNat 12) (116 + i) = _
    rw [put_out (by rw [oct_len (by omega)]; omega), put_out (by rw [oct_len (by omega)]; omega), key _ _ _ _ _ hi (by omega)]
    rfl
  | 3, _, hi =>
    have hi : i < 12 := hi
    show put (put (put (put (put (stg h 5) 100 (oct (fnn h 0).toNat 8)) 108 (oct (fnn h 1).toNat 8)) 116 (oct (fnn h 2).toNat 8)) 124 (oct (fnn h 3).toNat 12)) 136 (oct (fnn h 4).toNat 12) (124 + i) = _
    rw [put_out (by rw [oct_len (by omega)]; omega), key _ _ _ _ _ hi (by omega)]
    rfl
  | 4, _, hi =>
    have hi : i < 12 := hi
    show put (put (put (put (put (stg h 5) 100 (oct (fnn h 0).toNat 8)) 108 (oct (fnn h 1).toNat 8)) 116 (oct (fnn h 2).toNat 8)) 124 (oct (fnn h 3).toNat 12)) 136 (oct (fnn h 4).toNat 12) (136 + i) = _
    rw [key _ _ _ _ _ hi (by omega)]
    rfl

theorem fin_out (i : Nat) (hi : i ≠ 156) (hm : ¬ (257 ≤ i ∧ i < 265)) : fin_ h i = stn h 5 i := by
  unfold fin_
  rw [put_out (by simpa [mag] using hm), up1_ne _ _ hi]


variable {D : Nat → UInt8} (hD : ∀ i, i < 512 → D i = sealed (fin_ h) i)
include hD
theorem enc_out (i : Nat) (hi : i < 512) (ho : i < 148 ∨ 157 ≤ i) (hm : ¬ (257 ≤ i ∧ i < 265)) : D i = stn h 5 i := by
  rw [hD i hi, sealed_in (by omega), fin_out i (by omega) hm]

theorem enc_num (j : Nat) (hj : j < 5) : seg D (no j) (nw j) = oct (fnn h j).toNat (nw j) := by
  obtain ⟨h1, h2, h3⟩ := no_le j
  apply List.ext_getElem?
  intro i
  by_cases hi : i < nw j
  · rw [seg_get hi, enc_out hD _ (by omega) (by omega) (by omega), stn_num j hj i hi, List.getD_eq_getElem?_getD, List.getElem?_eq_getElem (by rw [oct_len (by omega)]; exact hi)]
    rfl
  · rw [List.getElem?_eq_none (by rw [seg_len]; omega), List.getElem?_eq_none (by rw [oct_len (by omega)]; omega)]

theorem enc_ty : D 156 = h.ty := by
  rw [hD _ (by omega), sealed_in (by omega)]
  unfold fin_
  rw [put_out (by simp), up1_self]

theorem enc_mag : seg D 257 8 = mag := by
  rw [seg_congr (D' := put (up1 (stn h 5) 156 h.ty) 257 mag) (o' := 257) (fun j hj => by rw [hD _ (by omega), sealed_in (by omega)]; rfl)]
  exact seg_put rfl

end

section
variable {h : Hd} (g : Good h)
include g

theorem r0 : h.nm.length ≤ 100 := g.room (j := 0) (by omega)
theorem r1 : h.lk.length ≤ 100 := g.room (j := 1) (by omega)
theorem r2 : h.us.length ≤ 31 := g.room (j := 2) (by omega)
theorem r3 : h.gr.length ≤ 31 := g.room (j := 3) (by omega)
theorem r4 : h.pr.length ≤ 155 := g.room (j := 4) (by omega)

theorem stg_pr (i : Nat) (hi : 345 ≤ i) : stg h 5 i = put (fun _ => 0) 345 h.pr i := by
  have h0 := r0 g
  have h1 := r1 g
  have h2 := r2 g
  have h3 := r3 g
  show put (put (put (put (put (fun _ => 0) 0 h.nm) 157 h.lk) 265 h.us) 297 h.gr) 345 h.pr i = _
  by_cases hin : 345 ≤ i ∧ i < 345 + h.pr.length
  · rw [put_eq1, if_pos hin, put_eq1, if_pos hin]
  · rw [put_out hin, put_out (by omega), put_out (by omega), put_out (by omega), put_out (by omega), put_out hin]

variable {D : Nat → UInt8} (hD : ∀ i, i < 512 → D i = sealed (fin_ h) i)
include hD

theorem enc_oct (hn : ∀ j, j < 5 → fnn h j < 9223372036854775808) (j : Nat) (hj : j < 5) : Oct (seg D (no j) (nw j)) (fnn h j).toNat ∧ fnn h j = ((fnn h j).toNat : Int) := by
  obtain ⟨h1, h2, h3⟩ := no_le j
  have hf := g.num j hj
  have h0 := fitb_nonneg hf
  have e : fnn h j = ((fnn h j).toNat : Int) := by omega
  rw [e] at hf
  have hd := (dig_lt h2).1 (fitb_nat.1 hf).2
  rw [enc_num hD j hj]
  have := hn j hj
  exact ⟨oct_oct h2 hd (by omega), e⟩

theorem enc_nm : txt (seg D 0 100) = h.nm := by
  have hr := r0 g
  rw [seg_pad (l := h.nm) hr (fun i hi => ?_) (fun i h1 h2 => ?_)]
  · exact txt_pad (fits_iff.1 (g.txt 0 (by omega))).2
  · rw [enc_out hD _ (by omega) (by omega) (by omega), stn_out _ (by omega), stg_nm _ (by omega)]
    exact put_get hi
  · rw [enc_out hD _ (by omega) (by omega) (by omega), stn_out _ (by omega), stg_nm _ (by omega), put_out (by omega)]

theorem enc_pr : txt (seg D 345 155) = h.pr := by
  have hr := r4 g
  rw [seg_pad (l := h.pr) hr (fun i hi => ?_) (fun i h1 h2 => ?_)]
  · exact txt_pad (fits_iff.1 (g.txt 4 (by omega))).2
  · rw [enc_out hD _ (by omega) (by omega) (by omega), stn_out _ (by omega), stg_pr g _ (by omega)]
    exact put_get hi
  · rw [enc_out hD _ (by omega) (by omega) (by omega), stn_out _ (by omega), stg_pr g _ (by omega), put_out (by omega)]
end

/-- A name without a byte 0 up to a place. -/
theorem txt_at {D : Nat → UInt8} {n k : Nat} (hk : k < n) (h : ∀ j, j ≤ k → D j ≠ 0) : (txt (seg D 0 n))[k]? = some (D k) := by
  by_cases hz : ∃ o, o < n ∧ D o = 0
  · have key : ∃ o, o < n ∧ D o = 0 ∧ ∀ i, i < o → D i ≠ 0 := by
      obtain ⟨o, ho⟩ := hz
      induction o using Nat.strongRecOn with
      | _ o ih =>
        by_cases hm : ∃ i, i < o ∧ D i = 0
        · obtain ⟨i, h1, h2⟩ := hm
          exact ih i h1 ⟨by omega, h2⟩
        · exact ⟨o, ho.1, ho.2, fun i hi e => hm ⟨i, hi, e⟩⟩
    obtain ⟨o, h1, h2, h3⟩ := key
    have hko : k < o := by
      rcases Nat.lt_or_ge k o with h4 | h4
      · exact h4
      · exact absurd h2 (h o h4)
    rw [txt_take (o := o) (by rw [seg_get h1, Nat.zero_add, h2]) (fun i hi => by rw [seg_get (by omega), Nat.zero_add]; intro e; exact h3 i hi (Option.some.inj e)), List.getElem?_take_of_lt hko, seg_get hk, Nat.zero_add]
  · rw [txt_all (fun i e => ?_), seg_get hk, Nat.zero_add]
    have hi : i < n := by
      have := (List.getElem?_eq_some_iff.1 e).1
      rwa [seg_len] at this
    rw [seg_get hi, Nat.zero_add] at e
    exact hz ⟨i, hi, Option.some.inj e⟩

/-- With a byte of the name another one it is another name. -/
theorem txt_ne {D E : Nat → UInt8} {n k : Nat} (hk : k < n) (h1 : ∀ j, j ≤ k → D j ≠ 0) (h2 : ∀ j, j ≤ k → E j ≠ 0) (h : D k ≠ E k) : txt (seg D 0 n) ≠ txt (seg E 0 n) := fun e => by
  have h3 := txt_at hk h1
  rw [e, txt_at hk h2] at h3
  exact h (Option.some.inj h3).symm

theorem xor_u8 (a b : UInt8) : bits .xor .u8 (a.toNat : Int) (b.toNat : Int) = ((a ^^^ b).toNat : Int) := by
  have h1 : BitVec.ofInt 8 (a.toNat : Int) = a.toBitVec := by
    apply BitVec.eq_of_toNat_eq
    have := a.toNat_lt
    simp [BitVec.toNat_ofInt]
  have h2 : BitVec.ofInt 8 (b.toNat : Int) = b.toBitVec := by
    apply BitVec.eq_of_toNat_eq
    have := b.toNat_lt
    simp [BitVec.toNat_ofInt]
  have h3 : bits .xor .u8 (a.toNat : Int) (b.toNat : Int) = IntKind.u8.wrap ((BitVec.ofInt 8 (a.toNat : Int) ^^^ BitVec.ofInt 8 (b.toNat : Int)).toNat : Int) := rfl
  have h4 : (a.toBitVec ^^^ b.toBitVec).toNat = (a ^^^ b).toNat := rfl
  rw [h3, h1, h2, h4, IntKind.wrap_u8]
  have := (a ^^^ b).toNat_lt
  omega
theorem xor_back (a b : UInt8) : (a ^^^ b) ^^^ b = a := by rw [UInt8.xor_assoc, UInt8.xor_self, UInt8.xor_zero]
theorem xor_ne {a b : UInt8} (h : b ≠ 0) : a ≠ a ^^^ b := fun e => h (by
  have h1 : a ^^^ a = a ^^^ (a ^^^ b) := congrArg (a ^^^ ·) e
  rw [UInt8.xor_self, ← UInt8.xor_assoc, UInt8.xor_self, UInt8.zero_xor] at h1
  exact h1.symm)
end Go.Proofs.Ytfpfdnckibaldaa.H
