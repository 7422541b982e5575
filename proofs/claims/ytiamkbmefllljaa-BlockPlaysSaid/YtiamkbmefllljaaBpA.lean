/- Blocks as they should be, kept in a map: what each thing that is done with blocks makes of the map. No condition. -/
import Derived.Test.YtiamkbmefllljaaQuiet
import Derived.Test.YtiamkbmefllljaaMp
import Derived.Test.YtiamkbmefllljaaOpen
set_option linter.unusedSimpArgs false
set_option linter.unusedVariables false
namespace Go.Proofs.Ytiamkbmefllljaa.Bp
open Go.RowKit Go.ChangeShapes Go.WideShapes Go.Proofs.Ytiamkbmefllljaa.M Go.Proofs.Ytiamkbmefllljaa.A Go.Proofs.Ytiamkbmefllljaa.L

theorem und53 : Try.prog.underlying 53 = some (.map 3 58) := by kernel_rfl
theorem und3 : Try.prog.underlying 3 = some (.int .i64) := by kernel_rfl
theorem row55 : RowTy Try.prog 55 6 := .of (by kernel_rfl)
theorem row58 : RowTy Try.prog 58 65 := .of (by kernel_rfl)
theorem has5 : ((Try.prog.info? 5).map (·.size)).isSome = true := by kernel_rfl
theorem zero55 : zeroIs Try.prog 55 (.agg #[.int .i64 0, .int .i64 0, .int .i64 0, .int .i64 0, .int .i64 0, .slice none 0 0]) := by unfold zeroIs; kernel_rfl

/-- A block as it should be: its bytes from o on, how often it is held. -/
def onec (D : Nat → UInt8) (o : Nat) (h : Int) : Array Value := tab 65 fun j => if j < 64 then M.u8 (D (o + j)) else .int .i64 h

theorem onec_size (D : Nat → UInt8) (o : Nat) (h : Int) : (onec D o h).size = 65 := tab_size _ _
theorem onec_at {D : Nat → UInt8} {o : Nat} {h : Int} {j : Nat} (hj : j < 64) : (onec D o h)[j]? = some (M.u8 (D (o + j))) := by
  unfold onec
  rw [tab_get (by omega), if_pos hj]
theorem onec_64 {D : Nat → UInt8} {o : Nat} {h : Int} : (onec D o h)[64]? = some (.int .i64 h) := by
  unfold onec
  rw [tab_get (by omega), if_neg (by omega)]
theorem onec_row (D : Nat → UInt8) (o : Nat) (h : Int) : RowTy Try.prog 58 (onec D o h).size := by rw [onec_size]; exact row58
theorem onec_one (D : Nat → UInt8) (o : Nat) (h : Int) : allOne (onec D o h).toList = true := by
  rw [allOne_iff]
  intro v hv
  simp only [onec, tab, List.mem_map] at hv
  obtain ⟨j, _, rfl⟩ := hv
  split <;> rfl
theorem onec_congr {D D' : Nat → UInt8} {o o' : Nat} {h : Int} (hD : ∀ j, j < 64 → D (o + j) = D' (o' + j)) : onec D o h = onec D' o' h := by
  refine tab_congr fun j _ => ?_
  by_cases hj : j < 64
  · rw [if_pos hj, if_pos hj, hD j hj]
  · rw [if_neg hj, if_neg hj]
theorem onec_hold (D : Nat → UInt8) (o : Nat) (h v : Int) : (onec D o h).setIfInBounds 64 (.int .i64 v) = onec D o v := by
  unfold onec
  rw [tab_set]
  refine tab_congr fun j hj => ?_
  unfold up1
  by_cases h1 : j < 64
  · simp only [h1, if_true]
    rw [if_neg (by omega)]
  · simp only [h1, if_false]
    rw [if_pos (by omega)]
theorem onec_lay {D : Nat → UInt8} {o q : Nat} {h : Int} {bs : List UInt8} (hq : q ≤ 64) (hl : bs.length ≤ 64 - q) : lay (onec D o h) (0 + skp 64 q 1) (bs.map M.u8) = onec (put D (o + q) bs) o h := by
  have hsk : 0 + skp 64 q 1 + (bs.map M.u8).length ≤ (onec D o h).size := by
    rw [onec_size, List.length_map]
    unfold skp
    split <;> omega
  refine tab_ext (by rw [lay_size hsk, onec_size]) (fun j hj => ?_)
  rw [lay_get hsk, List.length_map]
  by_cases e : 64 = q
  · subst e
    have hb : bs = [] := List.eq_nil_of_length_eq_zero (by omega)
    subst hb
    rw [if_neg (by simp only [List.length_nil]; omega)]
    by_cases h1 : j < 64
    · rw [onec_at h1, if_pos h1, put_eq, if_neg (by simp only [List.length_nil]; omega)]
    · obtain rfl : j = 64 := by omega
      rw [onec_64, if_neg (by omega)]
  · have hs : 0 + skp 64 q 1 = q := by unfold skp; rw [if_neg e]; omega
    rw [hs]
    by_cases h1 : q ≤ j ∧ j < q + bs.length
    · rw [if_pos h1, if_pos (by omega), put_eq, if_pos (by omega), List.getElem?_map, List.getElem?_eq_getElem (by omega)]
      simp only [Option.map_some]
      rw [show o + j - (o + q) = j - q by omega, List.getD_eq_getElem?_getD, List.getElem?_eq_getElem (by omega)]
      rfl
    · rw [if_neg h1]
      by_cases h2 : j < 64
      · rw [onec_at h2, if_pos h2, put_eq, if_neg (by omega)]
      · obtain rfl : j = 64 := by omega
        rw [onec_64, if_neg (by omega)]

/-- Nothing in it. -/
theorem zero58 : zeroIs Try.prog 58 (.agg (onec (fun _ => 0) 0 0)) := by unfold zeroIs; kernel_rfl

/-- The entries of the blocks T. -/
def ents (s : St) (T : List Nat) : List (Int × Value) := T.map fun (i : Nat) => ((i : Int), Value.agg (onec s.D (i * 64) (s.H i)))

theorem ents_mem {s : St} {T : List Nat} {k : Nat} (h : k ∈ T) : ((k : Int), Value.agg (onec s.D (k * 64) (s.H k))) ∈ ents s T := List.mem_map.2 ⟨k, h, rfl⟩
theorem ents_ne {s : St} {T : List Nat} {id : Int} (h : ∀ k ∈ T, (k : Int) ≠ id) : ∀ p ∈ ents s T, p.1 ≠ id := by
  intro p hp
  obtain ⟨i, hi, rfl⟩ := List.mem_map.1 hp
  exact h i hi
theorem ents_out {s : St} {T : List Nat} {p : Int × Value} (h : p ∈ ents s T) : ∃ k : Nat, k ∈ T ∧ p = ((k : Int), Value.agg (onec s.D (k * 64) (s.H k))) := by
  obtain ⟨i, hi, rfl⟩ := List.mem_map.1 h
  exact ⟨i, hi, rfl⟩
theorem ents_len (s : St) (T : List Nat) : (ents s T).length = T.length := by unfold ents; rw [List.length_map]

/-- What is so of a store and the blocks T. -/
structure Inv (p : Ptr) (s : St) (T : List Nat) (j : Nat) : Prop where
  nd : T.Nodup
  mem : ∀ i, i ∈ T ↔ i < p.n ∧ 0 < s.H i
  all : s.m + T.length = p.n
  le : ∀ i, i < p.n → s.H i ≤ j

section
variable {p : Ptr} {s s' : St} {T : List Nat} {j k : Nat}

theorem Inv.le' (h : Inv p s T j) {j' : Nat} (hj : j ≤ j') : Inv p s T j' := ⟨h.nd, h.mem, h.all, fun i hi => by have := h.le i hi; omega⟩

theorem Inv.start (ok : Okay p s) (hm : s.m = p.n) (hH : ∀ i, s.H i = 0) : Inv p s [] 0 :=
  ⟨List.nodup_nil, fun i => by simp [hH i], by simp [hm], fun i _ => by rw [hH i]; exact Int.le_refl _⟩

theorem Inv.held (h : Inv p s T j) {id : Int} (hn : ∀ k ∈ T, (k : Int) ≠ id) : ¬ Held p s id := by
  rintro ⟨h0, h1, h2⟩
  exact hn id.toNat ((h.mem _).2 ⟨by omega, h2⟩) (by omega)

/-- One is taken. -/
theorem Inv.take (h : Inv p s T j) (hk : k < p.n) (h0 : s.H k = 0) (hD : s'.D = put s.D (k * 64) (List.replicate 64 0)) (hH : s'.H = up1 s.H k 1) (hm : s'.m + 1 = s.m) :
    k ∉ T ∧ Inv p s' (T ++ [k]) (j + 1) ∧ ents s T ++ [((k : Int), Value.agg (onec (fun _ => 0) 0 1))] = ents s' (T ++ [k]) := by
  have hkT : k ∉ T := fun hin => by have := ((h.mem k).1 hin).2; omega
  refine ⟨hkT, ⟨?_, fun i => ?_, ?_, fun i hi => ?_⟩, ?_⟩
  · rw [List.nodup_append]
    refine ⟨h.nd, by simp, fun u hu t ht e => ?_⟩
    rw [List.mem_singleton] at ht
    exact hkT (ht ▸ e ▸ hu)
  · rw [hH, List.mem_append, List.mem_singleton, h.mem i]
    unfold up1
    by_cases e : i = k
    · subst e
      rw [if_pos rfl]
      simp [hk]
    · rw [if_neg e]
      simp [e]
  · rw [List.length_append, List.length_singleton]
    have := h.all
    omega
  · rw [hH]
    unfold up1
    split
    · omega
    · have := h.le i hi; omega
  · unfold ents
    rw [List.map_append]
    congr 1
    · refine List.map_congr_left fun i hi => ?_
      have hik : i ≠ k := fun e => hkT (e ▸ hi)
      rw [hH, up1_ne _ _ hik, hD]
      rw [onec_congr (D := s.D) (D' := put s.D (k * 64) (List.replicate 64 0)) (o' := i * 64) (fun j hj => by
        rw [put_eq, if_neg (by rw [List.length_replicate]; omega)])]
    · simp only [List.map_cons, List.map_nil]
      rw [hH, up1_self, hD]
      rw [onec_congr (D := fun _ => 0) (D' := put s.D (k * 64) (List.replicate 64 0)) (o' := k * 64) (fun j hj => by
        rw [put_eq, if_pos (by rw [List.length_replicate]; omega), getD_zeros])]

theorem ents_at {i : Nat} {u : Value} (h : (ents s T)[i]? = some ((k : Int), u)) : ∃ hi : i < T.length, T[i] = k := by
  have hi : i < T.length := by rw [← ents_len s T]; exact (List.getElem?_eq_some_iff.1 h).1
  refine ⟨hi, ?_⟩
  unfold ents at h
  rw [List.getElem?_map, List.getElem?_eq_getElem hi] at h
  simp only [Option.map_some, Option.some.injEq, Prod.mk.injEq] at h
  omega

/-- Of one block's entry another one. -/
theorem ents_set (hnd : T.Nodup) {i : Nat} {u : Value} (h : (ents s T)[i]? = some ((k : Int), u)) (hs : ∀ l, l ≠ k → onec s'.D (l * 64) (s'.H l) = onec s.D (l * 64) (s.H l)) :
    (ents s T).set i ((k : Int), Value.agg (onec s'.D (k * 64) (s'.H k))) = ents s' T := by
  obtain ⟨hi, hk⟩ := ents_at h
  apply List.ext_getElem?
  intro l
  rw [List.getElem?_set]
  unfold ents
  rw [List.length_map, List.getElem?_map, List.getElem?_map]
  by_cases e : i = l
  · subst e
    rw [if_pos rfl, if_pos hi, List.getElem?_eq_getElem hi, Option.map_some, hk]
  · rw [if_neg e]
    by_cases hl : l < T.length
    · rw [List.getElem?_eq_getElem hl, Option.map_some, Option.map_some, hs _ (fun h1 => e ((List.getElem_inj hnd).1 (hk.trans h1.symm)))]
    · rw [List.getElem?_eq_none (by omega)]
      rfl

/-- Bytes are written into one. -/
theorem Inv.write (h : Inv p s T j) {q : Nat} {bs : List UInt8} (hq : q + bs.length ≤ 64) (hD : s'.D = put s.D (k * 64 + q) bs) (hH : s'.H = s.H) (hm : s'.m = s.m) :
    Inv p s' T (j + 1) ∧ ∀ l, l ≠ k → onec s'.D (l * 64) (s'.H l) = onec s.D (l * 64) (s.H l) := by
  refine ⟨⟨h.nd, fun i => by rw [hH]; exact h.mem i, by rw [hm]; exact h.all, fun i hi => by rw [hH]; have := h.le i hi; omega⟩, fun l hl => ?_⟩
  rw [hH, hD]
  exact onec_congr (fun t ht => by rw [put_eq, if_neg (by omega)])

/-- One is held once more, or less. -/
theorem Inv.count (h : Inv p s T j) {v : Int} (hv : 0 < v) (hv1 : v ≤ (j : Int) + 1) (hkT : k ∈ T) (hD : s'.D = s.D) (hH : s'.H = up1 s.H k v) (hm : s'.m = s.m) :
    Inv p s' T (j + 1) ∧ ∀ l, l ≠ k → onec s'.D (l * 64) (s'.H l) = onec s.D (l * 64) (s.H l) := by
  have hk := (h.mem k).1 hkT
  refine ⟨⟨h.nd, fun i => ?_, by rw [hm]; exact h.all, fun i hi => ?_⟩, fun l hl => by rw [hH, hD, up1_ne _ _ hl]⟩
  · rw [hH, h.mem i]
    unfold up1
    by_cases e : i = k
    · subst e; rw [if_pos rfl]; simp [hk.2, hv]
    · rw [if_neg e]
  · rw [hH]
    unfold up1
    split
    · omega
    · have := h.le i hi; omega

/-- One is dropped for the last time. -/
theorem Inv.last (h : Inv p s T j) (hkT : k ∈ T) (hD : s'.D = s.D) (hH : s'.H = up1 s.H k 0) (hm : s'.m = s.m + 1) {i : Nat} {u : Value} (hi : (ents s T)[i]? = some ((k : Int), u)) :
    Inv p s' (T.eraseIdx i) (j + 1) ∧ (ents s T).eraseIdx i = ents s' (T.eraseIdx i) := by
  obtain ⟨hi, hk⟩ := ents_at hi
  have hin : ∀ l, l ∈ T.eraseIdx i ↔ l ∈ T ∧ l ≠ k := fun l => by
    have hmm : l ∈ T ↔ l = k ∨ l ∈ T.eraseIdx i := by
      have e : T = T.take i ++ T[i] :: T.drop (i + 1) := by rw [← List.drop_eq_getElem_cons hi, List.take_append_drop]
      rw [List.eraseIdx_eq_take_drop_succ]
      constructor
      · intro hl
        rw [e, List.mem_append, List.mem_cons, hk] at hl
        rcases hl with h1 | h1 | h1
        · exact .inr (List.mem_append.2 (.inl h1))
        · exact .inl h1
        · exact .inr (List.mem_append.2 (.inr h1))
      · rintro (h1 | h1)
        · rw [h1, ← hk]; exact List.getElem_mem _
        · rcases List.mem_append.1 h1 with h1 | h1
          · exact List.mem_of_mem_take h1
          · exact List.mem_of_mem_drop h1
    have hno : k ∉ T.eraseIdx i := fun hh => by
      obtain ⟨q, hq1, hq2⟩ := List.mem_eraseIdx_iff_getElem.1 hh
      exact hq2.1 ((List.getElem_inj h.nd).1 (hq2.2.trans hk.symm))
    constructor
    · intro hl
      exact ⟨hmm.2 (.inr hl), fun e => hno (e ▸ hl)⟩
    · rintro ⟨h1, h2⟩
      rcases hmm.1 h1 with h3 | h3
      · exact absurd h3 h2
      · exact h3
  refine ⟨⟨h.nd.sublist (List.eraseIdx_sublist _ _), fun l => ?_, ?_, fun l hl => ?_⟩, ?_⟩
  · rw [hin, h.mem, hH]
    unfold up1
    by_cases e : l = k
    · rw [if_pos e]; simp [e]
    · rw [if_neg e]; simp [e]
  · rw [List.length_eraseIdx, if_pos hi, hm]
    have := h.all
    omega
  · rw [hH]
    unfold up1
    split
    · omega
    · have := h.le l hl; omega
  · unfold ents
    rw [← Go.ChangeMaps.map_eraseIdx]
    refine List.map_congr_left fun l hl => ?_
    rw [hH, hD, up1_ne _ _ ((hin l).1 hl).2]
end

/-- Something to do with blocks. -/
structure Op6 where
  k : Int
  p : Int
  a : Int
  n : Int
  r : Int
  d : List UInt8

/-- .. as it lies in memory. -/
def OpRec (W : World) : Op6 → List Value → Prop := fun o cs => ∃ v, cs = [.int .i64 o.k, .int .i64 o.p, .int .i64 o.a, .int .i64 o.n, .int .i64 o.r, v] ∧ Bytes W v o.d

theorem size6_ {cs : List Value} (h : cs.length = 6) : ∃ c0 c1 c2 c3 c4 c5, cs = [c0, c1, c2, c3, c4, c5] := by
  match cs, h with
  | [c0, c1, c2, c3, c4, c5], _ => exact ⟨_, _, _, _, _, _, rfl⟩

theorem opened_ops {H : Type} {enc : TypeId × Value → H} {W : World} {base : Nat} {v : Value} {d : DataW H} {p : List MemPlace} (hval : Value.okWide Try.prog W .any base 52 v) (h : DataW.Trod enc Try.prog W 0 (fun _ => true) true 52 v d p) :
    ∃ l, Recs W 6 (OpRec W) v l := by
  obtain ⟨a, len, cap, rfl⟩ := okWide_slice Try.underlying52 hval
  obtain ⟨fuel, hf⟩ := h
  have hf' : DataW.trod enc Try.prog W 0 (fun _ => true) true fuel 52 [.slice a len cap] = some (d, p) := hf
  obtain ⟨v', l, hv, hr⟩ := open_recs (α := Op6) (k := 6) (E := OpRec W) Try.underlying52 (by kernel_rfl) hf' (fun n cs d hd hl => by
    obtain ⟨c0, c1, c2, c3, c4, c5, rfl⟩ := size6_ hl
    obtain ⟨xs, m, _, hx, _, hlen, hfld⟩ := DataW.trod_struct Try.underlying55 hd
    have e0 : DataW.trod enc Try.prog W 0 (fun _ => true) true m 3 ((([c0, c1, c2, c3, c4, c5] : List Value).drop 0).take (Try.prog.cellsOf 3)) = xs[0]? := hfld 0 _ rfl
    have e1 : DataW.trod enc Try.prog W 0 (fun _ => true) true m 3 ((([c0, c1, c2, c3, c4, c5] : List Value).drop 1).take (Try.prog.cellsOf 3)) = xs[1]? := hfld 1 _ rfl
    have e2 : DataW.trod enc Try.prog W 0 (fun _ => true) true m 3 ((([c0, c1, c2, c3, c4, c5] : List Value).drop 2).take (Try.prog.cellsOf 3)) = xs[2]? := hfld 2 _ rfl
    have e3 : DataW.trod enc Try.prog W 0 (fun _ => true) true m 3 ((([c0, c1, c2, c3, c4, c5] : List Value).drop 3).take (Try.prog.cellsOf 3)) = xs[3]? := hfld 3 _ rfl
    have e4 : DataW.trod enc Try.prog W 0 (fun _ => true) true m 3 ((([c0, c1, c2, c3, c4, c5] : List Value).drop 4).take (Try.prog.cellsOf 3)) = xs[4]? := hfld 4 _ rfl
    rw [show Try.prog.cellsOf 3 = 1 by kernel_rfl] at e0 e1 e2 e3 e4
    obtain ⟨z0, q0, _, u0⟩ := DataW.trod_int Try.underlying3 (x := xs[0]'(by rw [hlen]; decide)) (e0.trans (List.getElem?_eq_getElem _))
    obtain ⟨z1, q1, _, u1⟩ := DataW.trod_int Try.underlying3 (x := xs[1]'(by rw [hlen]; decide)) (e1.trans (List.getElem?_eq_getElem _))
    obtain ⟨z2, q2, _, u2⟩ := DataW.trod_int Try.underlying3 (x := xs[2]'(by rw [hlen]; decide)) (e2.trans (List.getElem?_eq_getElem _))
    obtain ⟨z3, q3, _, u3⟩ := DataW.trod_int Try.underlying3 (x := xs[3]'(by rw [hlen]; decide)) (e3.trans (List.getElem?_eq_getElem _))
    obtain ⟨z4, q4, _, u4⟩ := DataW.trod_int Try.underlying3 (x := xs[4]'(by rw [hlen]; decide)) (e4.trans (List.getElem?_eq_getElem _))
    have e5 : DataW.trod enc Try.prog W 0 (fun _ => true) true m 22 ((([c0, c1, c2, c3, c4, c5] : List Value).drop 5).take (Try.prog.cellsOf 22)) = xs[5]? := hfld 5 _ rfl
    rw [show Try.prog.cellsOf 22 = 1 by kernel_rfl] at e5
    obtain ⟨v5, z5, q5, hb5⟩ := open_bytes' (e5.trans (List.getElem?_eq_getElem (by rw [hlen]; decide)))
    simp at q0 q1 q2 q3 q4 q5
    subst q0 q1 q2 q3 q4
    exact ⟨⟨z0, z1, z2, z3, z4, z5⟩, v5, by rw [q5], hb5⟩)
  simp only [List.cons.injEq, and_true] at hv
  subst hv
  exact ⟨l, hr⟩

theorem op_get {w : World} {b : Option Addr} {c : Nat} {l : List Op6} (h : Recs w 6 (OpRec w) (.slice b l.length c) l) {j : Nat} (hj : j < l.length) :
    ∃ a tb tc, b = some a ∧ (∀ i u, [Value.int .i64 l[j].k, .int .i64 l[j].p, .int .i64 l[j].a, .int .i64 l[j].n, .int .i64 l[j].r, .slice tb l[j].d.length tc][i]? = some u → w.cell? ((a.add (j * 6)).add i) = some u) ∧ Bytes w (.slice tb l[j].d.length tc) l[j].d := by
  obtain ⟨a, cs, ha, h1, h2, v, rfl, hb⟩ := h.get hj
  obtain ⟨tb, tc, rfl⟩ := hb.len
  exact ⟨a, tb, tc, ha, h2, hb⟩
end Go.Proofs.Ytiamkbmefllljaa.Bp
