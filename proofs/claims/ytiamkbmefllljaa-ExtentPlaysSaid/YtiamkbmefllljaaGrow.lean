/- What becomes of a content's bytes when bytes are put behind it, block by block. Conditions: those of each lemma. -/
import Derived.Test.YtiamkbmefllljaaExt4
set_option linter.unusedVariables false
namespace Go.Proofs.Ytiamkbmefllljaa.E
open Go.RowKit Go.Proofs.Ytiamkbmefllljaa.M Go.Proofs.Ytiamkbmefllljaa.A Go.Proofs.Ytiamkbmefllljaa.L

theorem getD_app_l {L F : List Nat} {j : Nat} (h : j < L.length) : (L ++ F).getD j 0 = L.getD j 0 := by
  rw [List.getD_eq_getElem?_getD, List.getD_eq_getElem?_getD, List.getElem?_append_left h]
theorem getD_app_r {L : List Nat} {k : Nat} : (L ++ [k]).getD L.length 0 = k := by
  rw [List.getD_eq_getElem?_getD, List.getElem?_append_right (Nat.le_refl _)]; simp
theorem getD_mem {L : List Nat} {j : Nat} (h : j < L.length) : L.getD j 0 ∈ L := by
  rw [List.getD_eq_getElem?_getD, List.getElem?_eq_getElem h]; exact List.getElem_mem h
theorem getD_at {L : List Nat} {j : Nat} (h : j < L.length) : L.getD j 0 = L[j] := by
  rw [List.getD_eq_getElem?_getD, List.getElem?_eq_getElem h]; rfl

/-- A content whose last block may be written behind its end. -/
structure Pre (p : Ptr) (s : St) (K : List Nat) (n : Nat) : Prop where
  len : K.length = nd n
  mem : ∀ id ∈ K, id < p.n ∧ 0 < s.H id
  last : n % 64 ≠ 0 → ∀ j, j < n / 64 → K.getD j 0 ≠ K.getD (n / 64) 0

/-- So far: d bytes of bs stand behind the n bytes of K, in blocks F besides. -/
structure Gr (p : Ptr) (s1 : St) (K : List Nat) (n : Nat) (bs : List UInt8) (s : St) (F : List Nat) (d : Nat) : Prop where
  ok : Okay p s
  d_le : d ≤ bs.length
  len : (K ++ F).length = nd (n + d)
  nodup : F.Nodup
  fresh : ∀ id ∈ F, id < p.n ∧ s1.H id = 0
  H : ∀ id, s.H id = s1.H id + (F.count id : Nat)
  m : s.m + F.length = s1.m
  bytes : ∀ i, i < n + d → byte s.D (K ++ F) i = if i < n then byte s1.D K i else bs.getD (i - n) 0
  other : ∀ id, id ∉ F → (n % 64 = 0 ∨ id ≠ K.getD (n / 64) 0) → ∀ j, j < 64 → s.D (id * 64 + j) = s1.D (id * 64 + j)
  last : (n + d) % 64 ≠ 0 → ∀ j, j < (n + d) / 64 → (K ++ F).getD j 0 ≠ (K ++ F).getD ((n + d) / 64) 0
  lastw : (n + d) % 64 ≠ 0 → (K ++ F).getD ((n + d) / 64) 0 ∈ F ∨ (n % 64 ≠ 0 ∧ (K ++ F).getD ((n + d) / 64) 0 = K.getD (n / 64) 0)

section
variable {p : Ptr} {s1 s s2 s' : St} {K F : List Nat} {n d kk k : Nat} {bs : List UInt8}

theorem Gr.start (ok : Okay p s1) (h : Pre p s1 K n) (bs : List UInt8) : Gr p s1 K n bs s1 [] 0 where
  ok := ok
  d_le := Nat.zero_le _
  len := by simpa using h.len
  nodup := List.nodup_nil
  fresh := fun id hid => by simp at hid
  H := fun id => by simp
  m := by simp
  bytes := fun i hi => by rw [List.append_nil, if_pos (by omega)]
  other := fun _ _ _ _ _ => rfl
  last := by rw [List.append_nil]; exact h.last
  lastw := fun h0 => .inr ⟨h0, by rw [List.append_nil]; rfl⟩

theorem part_get {j : Nat} (hj : j < kk) (hk : d + kk ≤ bs.length) : ((bs.drop d).take kk).getD j 0 = bs.getD (d + j) 0 := by
  rw [getD_take hj, getD_drop]

theorem part_len (hk : d + kk ≤ bs.length) : ((bs.drop d).take kk).length = kk := by
  rw [List.length_take, List.length_drop]; omega

theorem Gr.near (h : Gr p s1 K n bs s F d) (ok' : Okay p s') (hq : (n + d) % 64 ≠ 0) (hk : kk ≤ 64 - (n + d) % 64) (hb : d + kk ≤ bs.length)
    (hD : s'.D = put s.D ((K ++ F).getD ((n + d) / 64) 0 * 64 + (n + d) % 64) ((bs.drop d).take kk)) (hH : s'.H = s.H) (hm : s'.m = s.m) : Gr p s1 K n bs s' F (d + kk) := by
  have hlen := h.len
  have hl : nd (n + d) = nd (n + (d + kk)) := by unfold nd; omega
  have hp := part_len hb
  refine ⟨ok', hb, by rw [hlen, hl], h.nodup, h.fresh, fun id => by rw [hH]; exact h.H id, by rw [hm]; exact h.m, ?_, ?_, ?_, ?_⟩
  · intro i hi
    unfold byte
    rw [hD, put_eq, hp]
    by_cases hin : i < n + d
    · have hb0 := h.bytes i hin
      unfold byte at hb0
      rw [if_neg, hb0]
      intro hc
      by_cases he : i / 64 = (n + d) / 64
      · rw [he] at hc; omega
      · have hne := h.last hq (i / 64) (by omega)
        omega
    · have he : i / 64 = (n + d) / 64 := by omega
      have hr : i % 64 = (n + d) % 64 + (i - (n + d)) := by omega
      rw [he, if_pos (by omega), if_neg (by omega), show (K ++ F).getD ((n + d) / 64) 0 * 64 + i % 64 - ((K ++ F).getD ((n + d) / 64) 0 * 64 + (n + d) % 64) = i - (n + d) by omega, part_get (by omega) hb]
      congr 1
      omega
  · intro id hid ho j hj
    rw [hD, put_eq, hp, if_neg]
    · exact h.other id hid ho j hj
    · intro hc
      have he : id = (K ++ F).getD ((n + d) / 64) 0 := by omega
      rcases h.lastw hq with h1 | ⟨h1, h2⟩
      · exact hid (he ▸ h1)
      · rcases ho with h3 | h3
        · exact h1 h3
        · exact h3 (he.trans h2)
  · intro hq'
    have he : (n + (d + kk)) / 64 = (n + d) / 64 := by omega
    rw [he]
    exact h.last hq
  · intro hq'
    have he : (n + (d + kk)) / 64 = (n + d) / 64 := by omega
    rw [he]
    exact h.lastw hq

theorem Gr.notin (h : Gr p s1 K n bs s F d) (hpre : Pre p s1 K n) (hk0 : s.H k = 0) : k ∉ K ++ F ∧ s1.H k = 0 := by
  have h1 := h.H k
  have hF : k ∉ F := by
    intro hin
    have h2 := (h.fresh k hin).2
    have h3 : 0 < F.count k := List.count_pos_iff.2 hin
    omega
  have h2 : F.count k = 0 := List.count_eq_zero.2 hF
  refine ⟨fun hin => ?_, by omega⟩
  rcases List.mem_append.1 hin with hin | hin
  · have := (hpre.mem k hin).2
    omega
  · exact hF hin

theorem Gr.next (h : Gr p s1 K n bs s F d) (hpre : Pre p s1 K n) (ok' : Okay p s') (hq : (n + d) % 64 = 0) (hk0 : s.H k = 0) (hkn : k < p.n) (h0 : 0 < kk) (hk : kk ≤ 64) (hb : d + kk ≤ bs.length)
    (hD2 : s2.D = put s.D (k * 64) (List.replicate 64 0)) (hH2 : s2.H = up1 s.H k 1) (hm2 : s2.m + 1 = s.m)
    (hD : s'.D = put s2.D (k * 64 + 0) ((bs.drop d).take kk)) (hH : s'.H = s2.H) (hm : s'.m = s2.m) : Gr p s1 K n bs s' (F ++ [k]) (d + kk) := by
  obtain ⟨hni, hk1⟩ := h.notin hpre hk0
  have hlen := h.len
  have hl : nd (n + (d + kk)) = nd (n + d) + 1 := by unfold nd; omega
  have hl2 : nd (n + d) = (n + d) / 64 := by unfold nd; omega
  have hp := part_len hb
  have happ : K ++ (F ++ [k]) = (K ++ F) ++ [k] := by rw [List.append_assoc]
  have hlast : ((K ++ F) ++ [k]).getD ((n + d) / 64) 0 = k := by rw [← hl2, ← hlen]; exact getD_app_r
  have hold : ∀ j, j < (n + d) / 64 → ((K ++ F) ++ [k]).getD j 0 = (K ++ F).getD j 0 ∧ (K ++ F).getD j 0 ≠ k := fun j hj => by
    have hj' : j < (K ++ F).length := by omega
    exact ⟨getD_app_l hj', fun e => hni (e ▸ getD_mem hj')⟩
  have hz : (List.replicate 64 (0 : UInt8)).length = 64 := List.length_replicate
  refine ⟨ok', hb, by rw [happ, List.length_append, hlen, hl]; rfl, ?_, ?_, ?_, ?_, ?_, ?_, ?_, ?_⟩
  · rw [List.nodup_append]
    refine ⟨h.nodup, by simp, fun a ha b hb e => ?_⟩
    rw [List.mem_singleton] at hb
    subst hb
    subst e
    exact hni (List.mem_append.2 (.inr ha))
  · intro id hid
    rcases List.mem_append.1 hid with hid | hid
    · exact h.fresh id hid
    · rw [List.mem_singleton] at hid
      subst hid
      exact ⟨hkn, hk1⟩
  · intro id
    have h1 := h.H id
    rw [hH, hH2, List.count_append, List.count_singleton]
    unfold up1
    by_cases e : id = k
    · subst e
      have hF : F.count id = 0 := List.count_eq_zero.2 (fun hin => hni (List.mem_append.2 (.inr hin)))
      simp only [if_true, beq_self_eq_true]
      omega
    · have e2 : (k == id) = false := beq_eq_false_iff_ne.2 (fun h => e h.symm)
      rw [if_neg e, h1, e2]
      simp
  · have := h.m
    rw [hm, List.length_append]
    simp only [List.length_singleton]
    omega
  · intro i hi
    unfold byte
    rw [happ, hD, put_eq, hp, hD2, put_eq, hz]
    by_cases hin : i < n + d
    · obtain ⟨e1, e2⟩ := hold (i / 64) (by omega)
      have hb0 := h.bytes i hin
      unfold byte at hb0
      rw [e1, if_neg (by omega), if_neg (by omega), hb0]
    · have he : i / 64 = (n + d) / 64 := by omega
      have hr : i % 64 = i - (n + d) := by omega
      rw [he, hlast, if_pos (by omega), if_neg (by omega), show k * 64 + i % 64 - (k * 64 + 0) = i - (n + d) by omega, part_get (by omega) hb]
      congr 1
      omega
  · intro id hid ho j hj
    have hne : id ≠ k := fun e => hid (List.mem_append.2 (.inr (by simp [e])))
    rw [hD, put_eq, hp, if_neg (by omega), hD2, put_eq, hz, if_neg (by omega)]
    exact h.other id (fun hin => hid (List.mem_append.2 (.inl hin))) ho j hj
  · intro hq' j hj
    have he : (n + (d + kk)) / 64 = (n + d) / 64 := by omega
    rw [happ, he, hlast]
    rw [he] at hj
    obtain ⟨e1, e2⟩ := hold j hj
    rw [e1]
    exact e2
  · intro hq'
    have he : (n + (d + kk)) / 64 = (n + d) / 64 := by omega
    rw [happ, he, hlast]
    exact .inl (List.mem_append.2 (.inr (by simp)))
end

/-- How many blocks are taken when len bytes are put behind n. -/
def mo (H : Nat → Int) (L : List Nat) (n len : Nat) : Nat := nd (n + len) - nd n + if n % 64 ≠ 0 ∧ H (L.getD (n / 64) 0) ≠ 1 then 1 else 0

/-- A content that may be. -/
structure Cn (p : Ptr) (s : St) (L : List Nat) (n : Nat) : Prop where
  n_le : n ≤ 1048576
  len : L.length = nd n
  mem : ∀ id ∈ L, id < p.n ∧ (L.count id : Int) ≤ s.H id

/-- What stands when bytes were put behind a content. -/
structure App (p : Ptr) (s : St) (L : List Nat) (n : Nat) (bs : List UInt8) (s' : St) (L' : List Nat) : Prop where
  ok : Okay p s'
  len : L'.length = nd (n + bs.length)
  mem : ∀ id ∈ L', id < p.n
  H : ∀ id, s'.H id + (L.count id : Nat) = s.H id + (L'.count id : Nat)
  m : s'.m + mo s.H L n bs.length = s.m
  bytes : ∀ i, i < n + bs.length → byte s'.D L' i = if i < n then byte s.D L i else bs.getD (i - n) 0
  other : ∀ id, (L.count id : Int) < s.H id → ∀ j, j < 64 → s'.D (id * 64 + j) = s.D (id * 64 + j)
  one : (∀ id ∈ L, s.H id = 1) → ∀ id ∈ L', s'.H id = 1

section
variable {p : Ptr} {s sA sB s1 s' : St} {L F : List Nat} {n k : Nat} {bs : List UInt8}

theorem Cn.pos (h : Cn p s L n) {id : Nat} (hid : id ∈ L) : id < p.n ∧ 0 < s.H id := by
  have h1 := h.mem id hid
  have h2 : 0 < L.count id := List.count_pos_iff.2 hid
  exact ⟨h1.1, by omega⟩

theorem count_two {L : List Nat} {j t : Nat} (hj : j < t) (ht : t < L.length) (he : L.getD j 0 = L.getD t 0) : 2 ≤ L.count (L.getD t 0) := by
  have h1 : L = L.take t ++ L.drop t := (List.take_append_drop t L).symm
  have h2 : L.drop t = L[t] :: L.drop (t + 1) := List.drop_eq_getElem_cons ht
  rw [getD_at (by omega), getD_at ht] at he
  rw [getD_at ht]
  have h3 : L[t] ∈ L.take t := by
    rw [← he]
    exact List.mem_take_iff_getElem.2 ⟨j, by omega, rfl⟩
  have h4 : 0 < (L.take t).count L[t] := List.count_pos_iff.2 h3
  have h5 : L.count L[t] = (L.take t).count L[t] + (L.drop t).count L[t] := by rw [← List.count_append, List.take_append_drop]
  rw [h5, h2, List.count_cons_self]
  omega

/-- Its last block is its own, or it has none that isn't full. -/
theorem Cn.pre (h : Cn p s L n) (hown : n % 64 = 0 ∨ s.H (L.getD (n / 64) 0) = 1) : Pre p s L n where
  len := h.len
  mem := fun id hid => h.pos hid
  last := fun hq j hj he => by
    have hl := h.len
    have ht : n / 64 < L.length := by unfold nd at hl; omega
    have h2 := count_two hj ht he
    have h3 := (h.mem _ (getD_mem ht)).2
    rcases hown with h4 | h4
    · exact hq h4
    · omega

theorem App.own (h : Cn p s L n) (hown : n % 64 = 0 ∨ s.H (L.getD (n / 64) 0) = 1) (g : Gr p s L n bs s' F bs.length) : App p s L n bs s' (L ++ F) := by
  have hlen := g.len
  have hl := h.len
  refine ⟨g.ok, hlen, ?_, ?_, ?_, g.bytes, ?_, ?_⟩
  · intro id hid
    rcases List.mem_append.1 hid with hid | hid
    · exact (h.mem id hid).1
    · exact (g.fresh id hid).1
  · intro id
    have := g.H id
    rw [List.count_append]
    omega
  · have := g.m
    unfold mo
    rw [List.length_append] at hlen
    rw [if_neg (by rintro ⟨h1, h2⟩; rcases hown with h3 | h3; exact h1 h3; exact h2 h3)]
    omega
  · intro id hid j hj
    refine g.other id (fun hin => ?_) ?_ j hj
    · have := (g.fresh id hin).2
      omega
    · rcases hown with h3 | h3
      · exact .inl h3
      · by_cases hq : n % 64 = 0
        · exact .inl hq
        · refine .inr (fun e => ?_)
          have ht : n / 64 < L.length := by unfold nd at hl; omega
          have h4 : 0 < L.count id := List.count_pos_iff.2 (e ▸ getD_mem ht)
          rw [← e] at h3
          omega
  · intro h1 id hid
    rw [g.H id]
    by_cases hF : id ∈ F
    · have h2 := (g.fresh id hF).2
      have h3 := g.nodup.count (a := id)
      rw [if_pos hF] at h3
      omega
    · have h3 : F.count id = 0 := List.count_eq_zero.2 hF
      rcases List.mem_append.1 hid with hid | hid
      · have := h1 id hid
        omega
      · exact absurd hid hF

/-- The last block was copied. -/
structure Cp (p : Ptr) (s : St) (L : List Nat) (n k : Nat) (s1 : St) : Prop where
  kn : k < p.n
  k0 : s.H k = 0
  D : s1.D = put (put s.D (k * 64) (List.replicate 64 0)) (k * 64 + 0) (seg s.D (L.getD (n / 64) 0 * 64 + 0) (n % 64))
  H : ∀ id, s1.H id = (if id = k then 1 else s.H id) - if id = L.getD (n / 64) 0 then 1 else 0
  m : s1.m + 1 = s.m

theorem Cp.facts (c : Cp p s L n k s1) (h : Cn p s L n) (hq : n % 64 ≠ 0) (h1 : s.H (L.getD (n / 64) 0) ≠ 1) :
    n / 64 < L.length ∧ k ≠ L.getD (n / 64) 0 ∧ 2 ≤ s.H (L.getD (n / 64) 0) ∧ k ∉ L := by
  have hl := h.len
  have ht : n / 64 < L.length := by unfold nd at hl; omega
  have h2 := (h.pos (getD_mem ht)).2
  have h3 := c.k0
  refine ⟨ht, fun e => by rw [← e] at h2; omega, by omega, fun hin => ?_⟩
  have := (h.pos hin).2
  omega

theorem Cp.D_far (c : Cp p s L n k s1) {id j : Nat} (hid : id ≠ k) (hj : j < 64) : s1.D (id * 64 + j) = s.D (id * 64 + j) := by
  have hz : (List.replicate 64 (0 : UInt8)).length = 64 := List.length_replicate
  rw [c.D, put_eq, seg_len, if_neg (by have := Nat.mod_lt n (by omega : 0 < 64); omega), put_eq, hz, if_neg (by omega)]

theorem Cp.byte_ (c : Cp p s L n k s1) (h : Cn p s L n) (hq : n % 64 ≠ 0) (h1 : s.H (L.getD (n / 64) 0) ≠ 1) {i : Nat} (hi : i < n) : byte s1.D (L.set (n / 64) k) i = byte s.D L i := by
  obtain ⟨ht, hne, h2, hni⟩ := c.facts h hq h1
  have hl := h.len
  unfold byte
  by_cases he : i / 64 = n / 64
  · have e1 : (L.set (n / 64) k).getD (i / 64) 0 = k := by
      rw [he, List.getD_eq_getElem?_getD, List.getElem?_set_self ht]; rfl
    have hlt : i % 64 < n % 64 := by omega
    rw [e1, c.D, put_eq, seg_len, if_pos (by omega), show k * 64 + i % 64 - (k * 64 + 0) = i % 64 by omega, List.getD_eq_getElem?_getD, seg_get hlt, he]
    rfl
  · have e1 : (L.set (n / 64) k).getD (i / 64) 0 = L.getD (i / 64) 0 := by
      rw [List.getD_eq_getElem?_getD, List.getElem?_set_ne (fun e => he e.symm), ← List.getD_eq_getElem?_getD]
    rw [e1]
    have hne2 : L.getD (i / 64) 0 ≠ k := fun e => by
      rw [← e] at hni
      exact hni (getD_mem (by unfold nd at hl; omega))
    exact c.D_far hne2 (Nat.mod_lt _ (by omega))

theorem Cp.pre (c : Cp p s L n k s1) (h : Cn p s L n) (hq : n % 64 ≠ 0) (h1 : s.H (L.getD (n / 64) 0) ≠ 1) : Pre p s1 (L.set (n / 64) k) n := by
  obtain ⟨ht, hne, h2, hni⟩ := c.facts h hq h1
  refine ⟨by rw [List.length_set]; exact h.len, fun id hid => ?_, fun _ j hj => ?_⟩
  · rcases List.mem_or_eq_of_mem_set hid with hin | rfl
    · have h3 := h.pos hin
      refine ⟨h3.1, ?_⟩
      rw [c.H, if_neg (fun e : id = k => hni (by rw [← e]; exact hin))]
      by_cases e : id = L.getD (n / 64) 0
      · rw [if_pos e, e]; omega
      · rw [if_neg e]; omega
    · refine ⟨c.kn, ?_⟩
      rw [c.H, if_pos rfl, if_neg hne]
      omega
  · rw [List.getD_eq_getElem?_getD, List.getElem?_set_ne (by omega), ← List.getD_eq_getElem?_getD, List.getD_eq_getElem?_getD (l := L.set (n / 64) k), List.getElem?_set_self ht]
    intro e
    have e' : L.getD j 0 = k := e
    exact hni (e' ▸ getD_mem (by omega))

theorem App.copied (h : Cn p s L n) (hq : n % 64 ≠ 0) (h1 : s.H (L.getD (n / 64) 0) ≠ 1) (c : Cp p s L n k s1) (g : Gr p s1 (L.set (n / 64) k) n bs s' F bs.length) : App p s L n bs s' (L.set (n / 64) k ++ F) := by
  obtain ⟨ht, hne, h2, hni⟩ := c.facts h hq h1
  have hlen := g.len
  have hl := h.len
  have hset : ∀ id, (L.set (n / 64) k).count id + (if id = L.getD (n / 64) 0 then 1 else 0) = L.count id + if id = k then 1 else 0 := by
    intro id
    have hc := List.count_set (a := k) (b := id) ht
    rw [hc]
    have e1 : L[n / 64] = L.getD (n / 64) 0 := (getD_at ht).symm
    simp only [e1, beq_iff_eq]
    have h5 : L.getD (n / 64) 0 = id → 0 < L.count id := fun e => List.count_pos_iff.2 (e ▸ getD_mem ht)
    by_cases e2 : id = L.getD (n / 64) 0
    · have := h5 e2.symm
      rw [if_pos e2, if_pos e2.symm]
      by_cases e3 : id = k
      · rw [if_pos e3, if_pos e3.symm]; omega
      · rw [if_neg e3, if_neg (fun e => e3 e.symm)]; omega
    · rw [if_neg e2, if_neg (fun e => e2 e.symm)]
      by_cases e3 : id = k
      · rw [if_pos e3, if_pos e3.symm]; omega
      · rw [if_neg e3, if_neg (fun e => e3 e.symm)]; omega
  refine ⟨g.ok, hlen, ?_, ?_, ?_, ?_, ?_, ?_⟩
  · intro id hid
    rcases List.mem_append.1 hid with hid | hid
    · exact ((c.pre h hq h1).mem id hid).1
    · exact (g.fresh id hid).1
  · intro id
    have h3 := g.H id
    have h4 := c.H id
    have h5 := hset id
    rw [List.count_append]
    by_cases e2 : id = L.getD (n / 64) 0
    · rw [if_pos e2] at h4 h5
      by_cases e3 : id = k
      · exact absurd (e3.symm.trans e2) hne
      · rw [if_neg e3] at h4 h5; omega
    · rw [if_neg e2] at h4 h5
      by_cases e3 : id = k
      · rw [if_pos e3] at h4 h5
        have := c.k0
        subst e3
        omega
      · rw [if_neg e3] at h4 h5; omega
  · have h3 := g.m
    have h4 := c.m
    unfold mo
    rw [List.length_append, List.length_set] at hlen
    rw [if_pos ⟨hq, h1⟩]
    have : nd n ≤ nd (n + bs.length) := by unfold nd; omega
    omega
  · intro i hi
    rw [g.bytes i hi]
    by_cases hin : i < n
    · rw [if_pos hin, if_pos hin, c.byte_ h hq h1 hin]
    · rw [if_neg hin, if_neg hin]
  · intro id hid j hj
    have hpos : 0 < s.H id := by omega
    have hk : id ≠ k := fun e => by rw [e] at hpos; have := c.k0; omega
    have q1 : id ∉ F := fun hin => by
      have h3 := (g.fresh id hin).2
      rw [c.H, if_neg hk] at h3
      by_cases e : id = L.getD (n / 64) 0
      · rw [if_pos e, e] at h3; omega
      · rw [if_neg e] at h3; omega
    have q2 : id ≠ (L.set (n / 64) k).getD (n / 64) 0 := by
      rw [List.getD_eq_getElem?_getD, List.getElem?_set_self ht]
      exact hk
    rw [g.other id q1 (.inr q2) j hj, c.D_far hk hj]
  · intro h3
    exact absurd (h3 _ (getD_mem ht)) h1
end
end Go.Proofs.Ytiamkbmefllljaa.E
