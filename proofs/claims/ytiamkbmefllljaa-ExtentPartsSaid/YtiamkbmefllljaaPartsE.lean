/- Bytes that are put part by part are those that are put at once, and take as many blocks. No condition. -/
import Derived.Test.YtiamkbmefllljaaKeeps
import Derived.Deep.Slices
import Derived.OpenShut
import Derived.ChangeOld
set_option linter.unusedSimpArgs false
set_option linter.unusedVariables false
namespace Go.Proofs.Ytiamkbmefllljaa.PartsE
open Go.RowKit Go.ChangeShapes Go.WideShapes Go.Proofs.Ytiamkbmefllljaa.M Go.Proofs.Ytiamkbmefllljaa.A Go.Proofs.Ytiamkbmefllljaa.L Go.Proofs.Ytiamkbmefllljaa.E

/-- A slice of numbers that came in, as it stands in w. -/
inductive Zs (w : World) : Value → List Int → Prop
  | nil : Zs w (.slice none 0 0) []
  | at_ (a : Addr) (l : List Int) (c : Nat) (hc : l.length ≤ c) (h : ∀ (j : Nat) (b : Int), l[j]? = some b → w.cell? (a.add j) = some (.int .i64 b)) : Zs w (.slice (some a) l.length c) l

theorem Zs.len {w : World} {x : Value} {L : List Int} (h : Zs w x L) : ∃ b c, x = .slice b L.length c := by
  cases h with
  | nil => exact ⟨none, 0, rfl⟩
  | at_ a l c _ _ => exact ⟨some a, c, rfl⟩

theorem Zs.src {w : World} {x : Value} {L : List Int} {tx e' : TypeId} (h : Zs w x L) (hk : Try.prog.underlying tx = some (.slice e')) : Src Try.prog 1 tx x L.length (L.map fun z => Value.int .i64 z) w := by
  cases h with
  | nil => exact Src.ofNil w hk 0
  | at_ a l c _ h =>
    refine Src.ofSlice w hk a L.length c _ (by simp) (fun j u hu => ?_) (fun u hu => ?_)
    · rw [List.getElem?_map] at hu
      cases hb : L[j]? with
      | none => simp [hb] at hu
      | some b =>
        simp only [hb, Option.map_some, Option.some.injEq] at hu
        rw [h j b hb, hu]
    · obtain ⟨b, _, rfl⟩ := List.mem_map.1 hu
      rfl

theorem Zs.came {w0 : Base} {w : World} {fr l : List Blk} {x : Value} {L : List Int} (h : Zs w0.w x L) (hM : Mem w0 w fr l) : Zs w x L := by
  cases h with
  | nil => exact .nil
  | at_ a L c hc h => exact .at_ a L c hc (fun j b hj => (hM.oldCell (a := a.add j) (cell_lt (h j b hj))).trans (h j b hj))

theorem opened_ints {H : Type} {enc : TypeId × Value → H} {W : World} {base : Nat} {v : Value} {d : DataW H} {p : List MemPlace} (hval : Value.okWide Try.prog W .any base 39 v) (h : DataW.Trod enc Try.prog W 0 (fun _ => true) true 39 v d p) :
    ∃ zs, Zs W v zs := by
  obtain ⟨a, len, cap, rfl⟩ := okWide_slice Try.underlying39 hval
  obtain ⟨fuel, hf⟩ := h
  have hf' : DataW.trod enc Try.prog W 0 (fun _ => true) true fuel 39 [.slice a len cap] = some (d, p) := hf
  rcases Go.Deep.open_slice1 Try.underlying39 (by kernel_rfl) hf' with ⟨hn, _⟩ | ⟨ad, len', cap', m, n, V, D, Pl, hcs, _, hle, _, hm, _, hel⟩
  · simp at hn
    obtain ⟨rfl, rfl, rfl⟩ := hn
    exact ⟨[], .nil⟩
  simp only [List.cons.injEq, Value.slice.injEq, and_true] at hcs
  obtain ⟨rfl, rfl, rfl⟩ := hcs
  rw [if_pos rfl] at hm
  subst hm
  have each : ∀ i, i < len → ∃ b : Int, W.cell? (ad.add i) = some (.int .i64 b) := by
    intro i hi
    obtain ⟨h1, h2⟩ := hel i (by omega)
    obtain ⟨x, hx, _, hw⟩ := DataW.trod_int Try.underlying3 h2
    simp at hx
    exact ⟨x, by rw [h1, hx]⟩
  obtain ⟨f, hf2⟩ := Go.Deep.choose_lt each
  have hl : ((List.range len).map f).length = len := by rw [List.length_map, List.length_range]
  refine ⟨(List.range len).map f, ?_⟩
  have := Zs.at_ (w := W) ad ((List.range len).map f) m (by rw [hl]; exact hle) (fun j b hj => by
    rw [List.getElem?_map] at hj
    by_cases hjl : j < len
    · rw [List.getElem?_range hjl] at hj
      simp only [Option.map_some, Option.some.injEq] at hj
      rw [hf2 j hjl, hj]
    · rw [List.getElem?_eq_none (by simpa using hjl)] at hj
      cases hj)
  rw [hl] at this
  exact this

theorem more_own {H : Nat → Int} {L : List Nat} {n k : Nat} (hl : L.length = nd n) (h : ∀ id ∈ L, H id = 1) : more H L n k + nd n = nd (n + k) := by
  unfold more mo
  by_cases hk : k = 0
  · rw [if_pos hk, hk]; simp
  · rw [if_neg hk]
    have hle : nd n ≤ nd (n + k) := by unfold nd; omega
    by_cases hq : n % 64 = 0
    · rw [if_neg (fun h => h.1 hq)]; omega
    · have ht : n / 64 < L.length := by rw [hl]; unfold nd; omega
      rw [if_neg (fun h2 => h2.2 (h _ (getD_mem ht)))]
      omega

theorem numrow {cs1 cs2 : Array Value} {zs : List Int} {n : Int} {z1 z2 : Array Value} {N1 N2 : Nat} (h1 : Onto #[] cs1 (zs.map fun z => Value.int .i64 z) z1 0 N1) (h2 : Onto cs1 cs2 [Value.int .i64 n] z2 zs.length N2) :
    ∀ j, j < zs.length + 1 → cs2[j]? = some (.int .i64 ((zs ++ [n]).getD j 0)) := by
  intro j hj
  by_cases hlt : j < zs.length
  · rw [h2.old j hlt]
    have h := h1.new j (by rw [List.length_map]; exact hlt)
    rw [Nat.zero_add, List.getElem?_map, List.getElem?_eq_getElem hlt] at h
    rw [h, List.getD_eq_getElem?_getD, List.getElem?_append_left hlt, List.getElem?_eq_getElem hlt]
    rfl
  · obtain rfl : j = zs.length := by omega
    have h := h2.new 0 (by simp)
    rw [Nat.add_zero] at h
    rw [h, List.getD_eq_getElem?_getD, List.getElem?_append_right (Nat.le_refl _), Nat.sub_self]
    rfl

theorem cf22 : ∀ (vs : Array Value) (w : World), (callFunc 22 vs).run Try.prog w = .ok (.enter 22 vs) w := fun vs w => by kernel_rfl

theorem same_len {B : Base} {x : Value} {bs : List UInt8} {n : Nat} (h : BsAt B x bs) (hn : bs.length = n) : BsAt B x bs := h

set_option maxRecDepth 100000 in
set_option maxHeartbeats 4000000 in
theorem parts_ok (w : World) (x y : Value) (bs : List UInt8) (zs : List Int) (hB : Bytes w x bs) (hZ : Zs w y zs) (hl : bs.length ≤ 2000) (hz : zs.length ≤ 50) : Calls Try.prog 10 #[x, y] w fun e w' => e = .returned (.bool true) ∧ Below w.heap.size w w' := by
  have hM := Mem.start w
  obtain ⟨xb, xc, rfl⟩ := hB.len
  obtain ⟨yb, yc, rfl⟩ := hZ.len
  have d9 : decide ((bs.length : Int) > 2000) = false := decide_eq_false (by omega)
  have d8 : decide ((zs.length : Int) > 50) = false := decide_eq_false (by omega)
  have hcap : bs.length ≤ xc := hB.cap_le
  have hb0 : BsAt (w : Base) (.slice xb bs.length xc) bs := fun w' fr l h' => hB.came h'
  go_enter Try.func10, Try.ntmps10
  go_wp2_with (first
    | (go_at_call 27; (with_reducible refine (keeps_mem _).mono ?_); rintro e w3 ⟨rfl, hb⟩; replace hM := hM.step hb; clear hb)
    | ((with_reducible refine wpl ?_); apply al_box (hM := hM); rfl; (first | exact want_none rfl | exact want_some rfl rfl rfl rfl); (first | (focus (go_simp; done)) | (focus (go_simp; rfl))); intro gb w1 hM1; clear hM; dsimp only [Value.cells] at hM1; have hM := hM1; clear hM1; simp only [Act.put, List.setIfInBounds_toArray, List.set_cons_zero, List.set_cons_succ])
    | ((with_reducible refine wpl ?_); apply al_zero (hM := hM); rfl; (first | exact want_none rfl | exact want_some rfl rfl rfl rfl); (first | exact zero41); intro gz w1 hM1; clear hM; dsimp only [Value.cells] at hM1; have hM := hM1; clear hM1; simp only [Act.put, List.setIfInBounds_toArray, List.set_cons_zero, List.set_cons_succ])
    | ((with_reducible refine wpl ?_); apply ld_row (hM := hM); rfl; (first | exact want_none rfl | exact want_some rfl rfl rfl rfl); rfl; (first | exact .head _ _ | exact .tail (.head _ _) | exact .tail (.tail (.head _ _)) | exact .tail (.tail (.tail (.head _ _))) | exact .tail (.tail (.tail (.tail (.head _ _)))) | exact .tail (.tail (.tail (.tail (.tail (.head _ _)))))); (first | exact row41); simp only [Act.put, List.setIfInBounds_toArray, List.set_cons_zero, List.set_cons_succ])
    | ((with_reducible refine wpl ?_); apply st_row (hM := hM); rfl; (first | exact want_none rfl | exact want_some rfl rfl rfl rfl); rfl; (first | (focus (go_simp; done)) | (focus (go_simp; rfl))); (first | exact .head _ _ | exact .tail (.head _ _) | exact .tail (.tail (.head _ _)) | exact .tail (.tail (.tail (.head _ _))) | exact .tail (.tail (.tail (.tail (.head _ _)))) | exact .tail (.tail (.tail (.tail (.tail (.head _ _)))))); rfl; rfl; (first | exact row41); intro w1 hM1; clear hM; (try simp only [List.setIfInBounds_toArray, List.set_cons_zero, List.set_cons_succ] at hM1); (try rw [tab_setInt] at hM1);  have hM := hM1; clear hM1; simp only [Act.put, List.setIfInBounds_toArray, List.set_cons_zero, List.set_cons_succ])
    | ((with_reducible refine wpl ?_); apply ld_one (hM := hM); rfl; (first | exact want_none rfl | exact want_some rfl rfl rfl rfl); rfl; (first | exact .head _ _ | exact .tail (.head _ _) | exact .tail (.tail (.head _ _)) | exact .tail (.tail (.tail (.head _ _))) | exact .tail (.tail (.tail (.tail (.head _ _)))) | exact .tail (.tail (.tail (.tail (.tail (.head _ _)))))); (first | (focus (simp only [List.getElem?_toArray, List.getElem?_cons_zero, List.getElem?_cons_succ]; rfl)) | exact tab_get (by omega) | rfl); (first | exact one3 | exact one39); simp only [Act.put, List.setIfInBounds_toArray, List.set_cons_zero, List.set_cons_succ])
    | ((with_reducible refine wpl ?_); apply st_cell (hM := hM); rfl; (first | exact want_none rfl | exact want_some rfl rfl rfl rfl); rfl; (first | (focus (go_simp; done)) | (focus (go_simp; rfl))); (first | exact .head _ _ | exact .tail (.head _ _) | exact .tail (.tail (.head _ _)) | exact .tail (.tail (.tail (.head _ _))) | exact .tail (.tail (.tail (.tail (.head _ _)))) | exact .tail (.tail (.tail (.tail (.tail (.head _ _)))))); (first | (focus (simp; done)) | (focus (rw [tab_size]; omega))); rfl; (first | exact one3 | exact one39); intro w1 hM1; clear hM; (try simp only [List.setIfInBounds_toArray, List.set_cons_zero, List.set_cons_succ] at hM1); (try rw [tab_setInt] at hM1);  have hM := hM1; clear hM1; simp only [Act.put, List.setIfInBounds_toArray, List.set_cons_zero, List.set_cons_succ]))
  refine (new hM 100 (by omega) rfl).mono ?_
  rintro e w3 ⟨p, s, rfl, hn, ok, hm, hH, hM1⟩
  clear hM
  have hM := hM1
  clear hM1
  have hc0 := (Cs.start ok hH).begin_
  have hm := hid_ hm
  have hn := hid_ hn
  go_wp2_with (first
    | ((with_reducible refine wpl ?_); apply al_box (hM := hM); rfl; (first | exact want_none rfl | exact want_some rfl rfl rfl rfl); (first | (focus (go_simp; done)) | (focus (go_simp; rfl))); intro gb w1 hM1; clear hM; dsimp only [Value.cells] at hM1; have hM := hM1; clear hM1; simp only [Act.put, List.setIfInBounds_toArray, List.set_cons_zero, List.set_cons_succ])
    | ((with_reducible refine wpl ?_); apply al_zero (hM := hM); rfl; (first | exact want_none rfl | exact want_some rfl rfl rfl rfl); (first | exact zero41); intro gz w1 hM1; clear hM; dsimp only [Value.cells] at hM1; have hM := hM1; clear hM1; simp only [Act.put, List.setIfInBounds_toArray, List.set_cons_zero, List.set_cons_succ])
    | ((with_reducible refine wpl ?_); apply ld_row (hM := hM); rfl; (first | exact want_none rfl | exact want_some rfl rfl rfl rfl); rfl; (first | exact .head _ _ | exact .tail (.head _ _) | exact .tail (.tail (.head _ _)) | exact .tail (.tail (.tail (.head _ _))) | exact .tail (.tail (.tail (.tail (.head _ _)))) | exact .tail (.tail (.tail (.tail (.tail (.head _ _)))))); (first | exact row41); simp only [Act.put, List.setIfInBounds_toArray, List.set_cons_zero, List.set_cons_succ])
    | ((with_reducible refine wpl ?_); apply st_row (hM := hM); rfl; (first | exact want_none rfl | exact want_some rfl rfl rfl rfl); rfl; (first | (focus (go_simp; done)) | (focus (go_simp; rfl))); (first | exact .head _ _ | exact .tail (.head _ _) | exact .tail (.tail (.head _ _)) | exact .tail (.tail (.tail (.head _ _))) | exact .tail (.tail (.tail (.tail (.head _ _)))) | exact .tail (.tail (.tail (.tail (.tail (.head _ _)))))); rfl; rfl; (first | exact row41); intro w1 hM1; clear hM; (try simp only [List.setIfInBounds_toArray, List.set_cons_zero, List.set_cons_succ] at hM1); (try rw [tab_setInt] at hM1);  have hM := hM1; clear hM1; simp only [Act.put, List.setIfInBounds_toArray, List.set_cons_zero, List.set_cons_succ])
    | ((with_reducible refine wpl ?_); apply ld_one (hM := hM); rfl; (first | exact want_none rfl | exact want_some rfl rfl rfl rfl); rfl; (first | exact .head _ _ | exact .tail (.head _ _) | exact .tail (.tail (.head _ _)) | exact .tail (.tail (.tail (.head _ _))) | exact .tail (.tail (.tail (.tail (.head _ _)))) | exact .tail (.tail (.tail (.tail (.tail (.head _ _)))))); (first | (focus (simp only [List.getElem?_toArray, List.getElem?_cons_zero, List.getElem?_cons_succ]; rfl)) | exact tab_get (by omega) | rfl); (first | exact one3 | exact one39); simp only [Act.put, List.setIfInBounds_toArray, List.set_cons_zero, List.set_cons_succ])
    | ((with_reducible refine wpl ?_); apply st_cell (hM := hM); rfl; (first | exact want_none rfl | exact want_some rfl rfl rfl rfl); rfl; (first | (focus (go_simp; done)) | (focus (go_simp; rfl))); (first | exact .head _ _ | exact .tail (.head _ _) | exact .tail (.tail (.head _ _)) | exact .tail (.tail (.tail (.head _ _))) | exact .tail (.tail (.tail (.tail (.head _ _)))) | exact .tail (.tail (.tail (.tail (.tail (.head _ _)))))); (first | (focus (simp; done)) | (focus (rw [tab_size]; omega))); rfl; (first | exact one3 | exact one39); intro w1 hM1; clear hM; (try simp only [List.setIfInBounds_toArray, List.set_cons_zero, List.set_cons_succ] at hM1); (try rw [tab_setInt] at hM1);  have hM := hM1; clear hM1; simp only [Act.put, List.setIfInBounds_toArray, List.set_cons_zero, List.set_cons_succ]))
  refine (cappend (c := none_) (b' := bs) (v' := (bs.length : Nat)) hM hc0 ((In.nil _).cons (IdsAt.nil _)) hb0 (by simp [none_]; omega) (by rw [hm.out]; simp [more, mo, nd, none_]; split <;> omega) rfl rfl rfl).mono ?_
  rintro e w3 ⟨s1, a1, m1, k1, L1, B1, rfl, hl1, hM1, hc1, hI1, hf1, ho1⟩
  clear hM
  have hM := hM1
  clear hM1
  have hf1' : Hid (s1.m + nd bs.length = 100) := hid_ (by
    have h1 := more_own (H := s.H) (L := none_.L) (n := 0) (k := bs.length) rfl (fun id hid => by simp [none_] at hid)
    have h2 := hm.out
    rw [Nat.zero_add] at h1
    have h3 : nd 0 = 0 := rfl
    rw [h3] at h1
    have h4 : none_.b.length = 0 := rfl
    rw [h4] at hf1
    omega)
  clear hf1 ho1
  go_wp2_with (first
    | ((with_reducible refine wpl ?_); apply al_box (hM := hM); rfl; (first | exact want_none rfl | exact want_some rfl rfl rfl rfl); (first | (focus (go_simp; done)) | (focus (go_simp; rfl))); intro gb w1 hM1; clear hM; dsimp only [Value.cells] at hM1; have hM := hM1; clear hM1; simp only [Act.put, List.setIfInBounds_toArray, List.set_cons_zero, List.set_cons_succ])
    | ((with_reducible refine wpl ?_); apply al_zero (hM := hM); rfl; (first | exact want_none rfl | exact want_some rfl rfl rfl rfl); (first | exact zero41); intro gz w1 hM1; clear hM; dsimp only [Value.cells] at hM1; have hM := hM1; clear hM1; simp only [Act.put, List.setIfInBounds_toArray, List.set_cons_zero, List.set_cons_succ])
    | ((with_reducible refine wpl ?_); apply ld_row (hM := hM); rfl; (first | exact want_none rfl | exact want_some rfl rfl rfl rfl); rfl; (first | exact .head _ _ | exact .tail (.head _ _) | exact .tail (.tail (.head _ _)) | exact .tail (.tail (.tail (.head _ _))) | exact .tail (.tail (.tail (.tail (.head _ _)))) | exact .tail (.tail (.tail (.tail (.tail (.head _ _)))))); (first | exact row41); simp only [Act.put, List.setIfInBounds_toArray, List.set_cons_zero, List.set_cons_succ])
    | ((with_reducible refine wpl ?_); apply st_row (hM := hM); rfl; (first | exact want_none rfl | exact want_some rfl rfl rfl rfl); rfl; (first | (focus (go_simp; done)) | (focus (go_simp; rfl))); (first | exact .head _ _ | exact .tail (.head _ _) | exact .tail (.tail (.head _ _)) | exact .tail (.tail (.tail (.head _ _))) | exact .tail (.tail (.tail (.tail (.head _ _)))) | exact .tail (.tail (.tail (.tail (.tail (.head _ _)))))); rfl; rfl; (first | exact row41); intro w1 hM1; clear hM; (try simp only [List.setIfInBounds_toArray, List.set_cons_zero, List.set_cons_succ] at hM1); (try rw [tab_setInt] at hM1);  have hM := hM1; clear hM1; simp only [Act.put, List.setIfInBounds_toArray, List.set_cons_zero, List.set_cons_succ])
    | ((with_reducible refine wpl ?_); apply ld_one (hM := hM); rfl; (first | exact want_none rfl | exact want_some rfl rfl rfl rfl); rfl; (first | exact .head _ _ | exact .tail (.head _ _) | exact .tail (.tail (.head _ _)) | exact .tail (.tail (.tail (.head _ _))) | exact .tail (.tail (.tail (.tail (.head _ _)))) | exact .tail (.tail (.tail (.tail (.tail (.head _ _)))))); (first | (focus (simp only [List.getElem?_toArray, List.getElem?_cons_zero, List.getElem?_cons_succ]; rfl)) | exact tab_get (by omega) | rfl); (first | exact one3 | exact one39); simp only [Act.put, List.setIfInBounds_toArray, List.set_cons_zero, List.set_cons_succ])
    | ((with_reducible refine wpl ?_); apply st_cell (hM := hM); rfl; (first | exact want_none rfl | exact want_some rfl rfl rfl rfl); rfl; (first | (focus (go_simp; done)) | (focus (go_simp; rfl))); (first | exact .head _ _ | exact .tail (.head _ _) | exact .tail (.tail (.head _ _)) | exact .tail (.tail (.tail (.head _ _))) | exact .tail (.tail (.tail (.tail (.head _ _)))) | exact .tail (.tail (.tail (.tail (.tail (.head _ _)))))); (first | (focus (simp; done)) | (focus (rw [tab_size]; omega))); rfl; (first | exact one3 | exact one39); intro w1 hM1; clear hM; (try simp only [List.setIfInBounds_toArray, List.set_cons_zero, List.set_cons_succ] at hM1); (try rw [tab_setInt] at hM1);  have hM := hM1; clear hM1; simp only [Act.put, List.setIfInBounds_toArray, List.set_cons_zero, List.set_cons_succ]))
  obtain ⟨gone, rfl⟩ : ∃ g : Nat, g = gz := ⟨_, rfl⟩
  refine (free hM hc1.ok (s1.m : Nat) rfl).mono ?_
  rintro e w3 ⟨rfl, hM1⟩
  clear hM
  have hM := hM1
  clear hM1
  go_wp2_with (first
    | ((with_reducible refine wpl ?_); apply al_none (hM := hM) (ht := sl39); rfl; (first | exact want_none rfl | exact want_some rfl rfl rfl rfl); intro gn w1 hM1; clear hM; have hM := hM1; clear hM1; simp only [Act.put, List.setIfInBounds_toArray, List.set_cons_zero, List.set_cons_succ])
    | ((with_reducible refine wpl ?_); apply ap_own (hM := hM) (ht := sl39) (n := zs.length) (news := zs.map fun z => Value.int .i64 z) (k := 0) (cap := 0); rfl; (first | exact want_none rfl | exact want_some rfl rfl rfl rfl); rfl; rfl; (first | exact .head _ _ | exact .tail (.head _ _) | exact .tail (.tail (.head _ _)) | exact .tail (.tail (.tail (.head _ _)))); rfl; omega; exact (hZ.came ((hl1.mem hM))).src und39; omega; omega; intro g1 cap1 cs1 w1 hM1 hon1 hcap1 hsame; clear hM hsame; rw [Nat.zero_mul, Nat.mul_one] at hon1; rw [Nat.zero_add] at hcap1 ⊢; have hM := hM1; clear hM1; simp only [Act.put, List.setIfInBounds_toArray, List.set_cons_zero, List.set_cons_succ])
    | ((with_reducible refine wpl ?_); apply al_one (hM := hM) (v := .int .i64 (bs.length : Nat)) (ht := sl39); rfl; (first | exact want_none rfl | exact want_some rfl rfl rfl rfl); rfl; rfl; intro gq w1 hM1; clear hM; have hM := hM1; clear hM1; simp only [Act.put, List.setIfInBounds_toArray, List.set_cons_zero, List.set_cons_succ])
    | ((with_reducible refine wpl ?_); apply ap_own (hM := hM) (ht := sl39) (n := 1) (news := [Value.int .i64 (bs.length : Nat)]) (k := zs.length) (cap := cap1) (g := g1); rfl; (first | exact want_none rfl | exact want_some rfl rfl rfl rfl); rfl; rfl; (first | exact .head _ _ | exact .tail (.head _ _) | exact .tail (.tail (.head _ _)) | exact .tail (.tail (.tail (.head _ _)))); (rw [hon1.size, Nat.mul_one]); exact hcap1; exact hM.src1 (.head _ _) rfl und39; omega; omega; intro g2 cap2 cs2 w1 hM1 hon2 hcap2 hsame; clear hM hsame; rw [Nat.mul_one, Nat.mul_one] at hon2; have hM := hM1; clear hM1; simp only [Act.put, List.setIfInBounds_toArray, List.set_cons_zero, List.set_cons_succ])
    | ((with_reducible refine wpl ?_); apply al_box (hM := hM); rfl; (first | exact want_none rfl | exact want_some rfl rfl rfl rfl); (first | (focus (go_simp; done)) | (focus (go_simp; rfl))); intro gb w1 hM1; clear hM; dsimp only [Value.cells] at hM1; have hM := hM1; clear hM1; simp only [Act.put, List.setIfInBounds_toArray, List.set_cons_zero, List.set_cons_succ])
    | ((with_reducible refine wpl ?_); apply al_zero (hM := hM); rfl; (first | exact want_none rfl | exact want_some rfl rfl rfl rfl); (first | exact zero41); intro gz w1 hM1; clear hM; dsimp only [Value.cells] at hM1; have hM := hM1; clear hM1; simp only [Act.put, List.setIfInBounds_toArray, List.set_cons_zero, List.set_cons_succ])
    | ((with_reducible refine wpl ?_); apply ld_row (hM := hM); rfl; (first | exact want_none rfl | exact want_some rfl rfl rfl rfl); rfl; (first | exact .head _ _ | exact .tail (.head _ _) | exact .tail (.tail (.head _ _)) | exact .tail (.tail (.tail (.head _ _))) | exact .tail (.tail (.tail (.tail (.head _ _)))) | exact .tail (.tail (.tail (.tail (.tail (.head _ _)))))); (first | exact row41); simp only [Act.put, List.setIfInBounds_toArray, List.set_cons_zero, List.set_cons_succ])
    | ((with_reducible refine wpl ?_); apply st_row (hM := hM); rfl; (first | exact want_none rfl | exact want_some rfl rfl rfl rfl); rfl; (first | (focus (go_simp; done)) | (focus (go_simp; rfl))); (first | exact .head _ _ | exact .tail (.head _ _) | exact .tail (.tail (.head _ _)) | exact .tail (.tail (.tail (.head _ _))) | exact .tail (.tail (.tail (.tail (.head _ _)))) | exact .tail (.tail (.tail (.tail (.tail (.head _ _)))))); rfl; rfl; (first | exact row41); intro w1 hM1; clear hM; (try simp only [List.setIfInBounds_toArray, List.set_cons_zero, List.set_cons_succ] at hM1); (try rw [tab_setInt] at hM1);  have hM := hM1; clear hM1; simp only [Act.put, List.setIfInBounds_toArray, List.set_cons_zero, List.set_cons_succ])
    | ((with_reducible refine wpl ?_); apply ld_one (hM := hM); rfl; (first | exact want_none rfl | exact want_some rfl rfl rfl rfl); rfl; (first | exact .head _ _ | exact .tail (.head _ _) | exact .tail (.tail (.head _ _)) | exact .tail (.tail (.tail (.head _ _))) | exact .tail (.tail (.tail (.tail (.head _ _)))) | exact .tail (.tail (.tail (.tail (.tail (.head _ _)))))); (first | (focus (simp only [List.getElem?_toArray, List.getElem?_cons_zero, List.getElem?_cons_succ]; rfl)) | exact tab_get (by omega) | rfl); (first | exact one3 | exact one39); simp only [Act.put, List.setIfInBounds_toArray, List.set_cons_zero, List.set_cons_succ])
    | ((with_reducible refine wpl ?_); apply st_cell (hM := hM); rfl; (first | exact want_none rfl | exact want_some rfl rfl rfl rfl); rfl; (first | (focus (go_simp; done)) | (focus (go_simp; rfl))); (first | exact .head _ _ | exact .tail (.head _ _) | exact .tail (.tail (.head _ _)) | exact .tail (.tail (.tail (.head _ _))) | exact .tail (.tail (.tail (.tail (.head _ _)))) | exact .tail (.tail (.tail (.tail (.tail (.head _ _)))))); (first | (focus (simp; done)) | (focus (rw [tab_size]; omega))); rfl; (first | exact one3 | exact one39); intro w1 hM1; clear hM; (try simp only [List.setIfInBounds_toArray, List.set_cons_zero, List.set_cons_succ] at hM1); (try rw [tab_setInt] at hM1);  have hM := hM1; clear hM1; simp only [Act.put, List.setIfInBounds_toArray, List.set_cons_zero, List.set_cons_succ]))
  obtain ⟨gtwo, rfl⟩ : ∃ g : Nat, g = gz := ⟨_, rfl⟩
  have hns : Hid (∀ j, j < zs.length + 1 → cs2[j]? = some (.int .i64 ((zs ++ [(bs.length : Int)]).getD j 0))) := hid_ (numrow hon1 hon2)
  have hlast : (zs ++ [(bs.length : Int)]).getD zs.length 0 = bs.length := by rw [List.getD_eq_getElem?_getD, List.getElem?_append_right (Nat.le_refl _)]; simp
  have hlast := hid_ hlast
  have hM1 := (hM.sub (.cons (.tail (.head _ _)) (.same _))).tail
  clear hM
  have hM := hM1
  clear hM1 hon1 hon2
  generalize zs ++ [(bs.length : Int)] = ns at hns hlast
  go_loopw [54, 11] (fun xj xr wr => ∃ (j r m : Nat) (ss : St) (a : Option Addr) (k cc : Nat) (L : List Nat) (B : Base) (rb : Option Addr) (rc : Nat), j ≤ zs.length + 1 ∧ xj = .int .i64 j ∧ xr = .slice rb m rc ∧ Hid (r + m = bs.length) ∧ Hid (BsAt B1 (.slice rb m rc) (bs.drop r)) ∧ Hid (j = zs.length + 1 → m = 0) ∧ Le B1 B ∧ Cs p ss [⟨.slice a k cc, L, bs.take r⟩, ⟨.slice a1 m1 k1, L1, bs⟩] ∧ In B [⟨.slice a k cc, L, bs.take r⟩, ⟨.slice a1 m1 k1, L1, bs⟩] ∧ Hid (ss.m + nd r = s1.m) ∧ Hid (∀ id ∈ L, ss.H id = 1) ∧ Mem B wr (arena p ss) [⟨g2, cs2, 3, (0, 0)⟩, ⟨gtwo, #[.slice a k cc, .int .i64 (r : Nat)], 41, (0, 0)⟩, ⟨gone, #[.slice a1 m1 k1, .int .i64 (bs.length : Nat)], 41, (0, 0)⟩]) (fun xj _ _ => zs.length + 1 - (intOf xj).toNat)
  case atStart => exact ⟨0, 0, bs.length, s1, _, _, _, _, B1, _, _, by omega, by go_num, rfl, hid_ (by omega), hid_ (hb0.le hl1), hid_ (by omega), Le.refl _, hc1.begin_, hI1.cons (IdsAt.nil _), hid_ rfl, hid_ (fun id hid => by simp at hid), hM⟩
  case round =>
    obtain ⟨j, r, m, ss, a, k, cc, L, B, rb, rc, hj, rfl, rfl, hrm, hbr, hjm, hle, hcs, hIs, hssm, hone, hMr⟩ := hrel
    clear hM
    have hM := hMr
    clear hMr
    by_cases hlt : j < zs.length + 1
    · have hlt' : (j : Int) < (zs.length : Int) + 1 := by omega
      have hnv := hns.out j hlt
      obtain ⟨v, hv⟩ : ∃ v, Hid (ns.getD j 0 = v) := ⟨_, hid_ rfl⟩
      rw [hv.out] at hnv
      have hmb : m ≤ 2000 := by have := hrm.out; omega
      go_wp2_with (first | ((with_reducible refine wpl ?_); apply ld_one (hM := hM) (v := .int .i64 v); rfl; (first | exact want_none rfl | exact want_some rfl rfl rfl rfl); rfl; (first | exact .head _ _ | exact .tail (.head _ _) | exact .tail (.tail (.head _ _))); exact hnv; exact one3; simp only [Act.put, List.setIfInBounds_toArray, List.set_cons_zero, List.set_cons_succ]) | ((with_reducible refine wpl ?_); apply al_box (hM := hM); rfl; (first | exact want_none rfl | exact want_some rfl rfl rfl rfl); (first | (focus (go_simp; done)) | (focus (go_simp; rfl))); intro gb w1 hM1; clear hM; dsimp only [Value.cells] at hM1; have hM := hM1; clear hM1; simp only [Act.put, List.setIfInBounds_toArray, List.set_cons_zero, List.set_cons_succ]) | ((with_reducible refine wpl ?_); apply al_zero (hM := hM); rfl; (first | exact want_none rfl | exact want_some rfl rfl rfl rfl); (first | exact zero41); intro gz w1 hM1; clear hM; dsimp only [Value.cells] at hM1; have hM := hM1; clear hM1; simp only [Act.put, List.setIfInBounds_toArray, List.set_cons_zero, List.set_cons_succ]) | ((with_reducible refine wpl ?_); apply ld_row (hM := hM); rfl; (first | exact want_none rfl | exact want_some rfl rfl rfl rfl); rfl; (first | exact .head _ _ | exact .tail (.head _ _) | exact .tail (.tail (.head _ _)) | exact .tail (.tail (.tail (.head _ _))) | exact .tail (.tail (.tail (.tail (.head _ _)))) | exact .tail (.tail (.tail (.tail (.tail (.head _ _)))))); (first | exact row41); simp only [Act.put, List.setIfInBounds_toArray, List.set_cons_zero, List.set_cons_succ]) | ((with_reducible refine wpl ?_); apply st_row (hM := hM); rfl; (first | exact want_none rfl | exact want_some rfl rfl rfl rfl); rfl; (first | (focus (go_simp; done)) | (focus (go_simp; rfl))); (first | exact .head _ _ | exact .tail (.head _ _) | exact .tail (.tail (.head _ _)) | exact .tail (.tail (.tail (.head _ _))) | exact .tail (.tail (.tail (.tail (.head _ _)))) | exact .tail (.tail (.tail (.tail (.tail (.head _ _)))))); rfl; rfl; (first | exact row41); intro w1 hM1; clear hM; (try simp only [List.setIfInBounds_toArray, List.set_cons_zero, List.set_cons_succ] at hM1); (try rw [tab_setInt] at hM1);  have hM := hM1; clear hM1; simp only [Act.put, List.setIfInBounds_toArray, List.set_cons_zero, List.set_cons_succ]) | ((with_reducible refine wpl ?_); apply ld_one (hM := hM); rfl; (first | exact want_none rfl | exact want_some rfl rfl rfl rfl); rfl; (first | exact .head _ _ | exact .tail (.head _ _) | exact .tail (.tail (.head _ _)) | exact .tail (.tail (.tail (.head _ _))) | exact .tail (.tail (.tail (.tail (.head _ _)))) | exact .tail (.tail (.tail (.tail (.tail (.head _ _)))))); (first | (focus (simp only [List.getElem?_toArray, List.getElem?_cons_zero, List.getElem?_cons_succ]; rfl)) | exact tab_get (by omega) | rfl); (first | exact one3 | exact one39); simp only [Act.put, List.setIfInBounds_toArray, List.set_cons_zero, List.set_cons_succ]) | ((with_reducible refine wpl ?_); apply st_cell (hM := hM); rfl; (first | exact want_none rfl | exact want_some rfl rfl rfl rfl); rfl; (first | (focus (go_simp; done)) | (focus (go_simp; rfl))); (first | exact .head _ _ | exact .tail (.head _ _) | exact .tail (.tail (.head _ _)) | exact .tail (.tail (.tail (.head _ _))) | exact .tail (.tail (.tail (.tail (.head _ _)))) | exact .tail (.tail (.tail (.tail (.tail (.head _ _)))))); (first | (focus (simp; done)) | (focus (rw [tab_size]; omega))); rfl; (first | exact one3 | exact one39); intro w1 hM1; clear hM; (try simp only [List.setIfInBounds_toArray, List.set_cons_zero, List.set_cons_succ] at hM1); (try rw [tab_setInt] at hM1);  have hM := hM1; clear hM1; simp only [Act.put, List.setIfInBounds_toArray, List.set_cons_zero, List.set_cons_succ]))
      case inl.inl =>
        have hkm : m ≤ m := by omega
        have hr : (bs.take r).length = r := by rw [List.length_take]; have := hrm.out; omega
        have hpl : ((bs.drop r).take (m)).length = m := by rw [List.length_take, List.length_drop]; have := hrm.out; omega
        have hbk : BsAt B (.slice rb (m) rc) ((bs.drop r).take (m)) := fun w' fr' l' h' => ((hbr.out.le hle) w' fr' l' h').upto (by omega)
        have hfit : more ss.H L (bs.take r).length ((bs.drop r).take (m)).length ≤ ss.m := by
          rw [hr, hpl]
          have h1 := more_own (H := ss.H) (L := L) (n := r) (k := m) (by have := hcs.len _ (List.mem_cons_self ..); simpa [hr] using this) hone.out
          have h2 := hssm.out
          have h3 := hf1'.out
          have h4 : nd (r + (m)) ≤ nd bs.length := by have := hrm.out; unfold nd; omega
          have h5 : nd bs.length ≤ 32 := by unfold nd; omega
          omega
        have hrc : m ≤ rc := (hbr.out _ _ _ (hle.mem hM)).cap_le
        have hfit := hid_ hfit
        have hr := hid_ hr
        have hpl := hid_ hpl
        refine reg_begin (fun _ => True) (by kernel_rfl) hM (fun wd hMd => ?_)
        clear hM
        have hM := hMd
        clear hMd
        have hS : True := trivial
        refine reg_free 0 (v := own p) rfl (by kernel_rfl) (by kernel_rfl) (by kernel_rfl) (fun _ _ _ h => h) (by (first | exact want_none rfl | exact want_some rfl rfl rfl rfl)) (fun w => by go_simp) hS ?_
        simp only [Act.put, List.setIfInBounds_toArray, List.set_cons_zero, List.set_cons_succ]
        refine reg_free 2 (v := .slice rb m rc) rfl (by kernel_rfl) (by kernel_rfl) (by kernel_rfl) (fun _ _ _ h => h) (by (first | exact want_none rfl | exact want_some rfl rfl rfl rfl)) (fun w => by go_simp) hS ?_
        simp only [Act.put, List.setIfInBounds_toArray, List.set_cons_zero, List.set_cons_succ]
        refine reg_free 3 (v := .int .i64 (m : Nat)) rfl (by kernel_rfl) (by kernel_rfl) (by kernel_rfl) (fun _ _ _ h => h) (by (first | exact want_none rfl | exact want_some rfl rfl rfl rfl)) (fun w => by go_simp) hS ?_
        simp only [Act.put, List.setIfInBounds_toArray, List.set_cons_zero, List.set_cons_succ]
        refine reg_free 4 (v := .slice rb (m) rc) rfl (by kernel_rfl) (by kernel_rfl) (by kernel_rfl) (fun _ _ _ h => h) (by (first | exact want_none rfl | exact want_some rfl rfl rfl rfl)) (fun w => run_sl_h w (m) rfl und22 has5' rfl rfl (by first | rfl | omega) (by omega)) hS ?_
        simp only [Act.put, List.setIfInBounds_toArray, List.set_cons_zero, List.set_cons_succ]
        refine reg_step 1 (by kernel_rfl) rfl ?_
        apply ld_row (hM := hM); rfl; (first | exact want_none rfl | exact want_some rfl rfl rfl rfl); rfl; exact .tail (.head _ _); exact row41
        refine ⟨hS, ?_⟩
        simp only [Act.put, List.setIfInBounds_toArray, List.set_cons_zero, List.set_cons_succ]
        refine reg_step 5 (by kernel_rfl) rfl (call_fn rfl (want_none rfl) cf22 (cappend (c := ⟨.slice a k cc, L, bs.take r⟩) (b' := bs.take (r + (m))) (v := (r : Nat)) (v' := (r + (m) : Nat)) hM hcs hIs hbk (by have := hrm.out; simp only [hr.out, hpl.out]; omega) hfit.out (by simp only [hr.out]) (by rw [List.take_add]) (by rw [List.length_take]; have := hrm.out; congr 1; omega)) (by simp only [List.map_toArray, List.map_cons, List.map_nil]; rfl) ?_)
        rintro e w4 ⟨s', a', m', cc', L', B', rfl, hl', hM1, hcs', hI', hf', ho'⟩
        clear hM
        have hM := hM1
        clear hM1
        have hf' : Hid (s'.m + nd (r + (m)) = s1.m) := hid_ (by
          rw [hr.out, hpl.out] at hf'
          have h1 := more_own (H := ss.H) (L := L) (n := r) (k := m) (by have := hcs.len _ (List.mem_cons_self ..); simpa [hr.out] using this) hone.out
          have h2 := hssm.out
          simp only at hf'
          omega)
        refine ⟨_, rfl, ?_⟩
        refine ⟨hS, ?_⟩
        simp only [Act.put, List.setIfInBounds_toArray, List.set_cons_zero, List.set_cons_succ]
        refine reg_free 6 (v := .tuple #[.agg #[.slice a' m' cc', .int .i64 (r + (m) : Nat)], .int .i64 0]) rfl (by kernel_rfl) (by kernel_rfl) (by kernel_rfl) (fun _ _ _ h => h) (by (first | exact want_none rfl | exact want_some rfl rfl rfl rfl)) (fun w => by go_simp) hS ?_
        simp only [Act.put, List.setIfInBounds_toArray, List.set_cons_zero, List.set_cons_succ]
        refine reg_free 7 (v := .agg #[.slice a' m' cc', .int .i64 (r + (m) : Nat)]) rfl (by kernel_rfl) (by kernel_rfl) (by kernel_rfl) (fun _ _ _ h => h) (by (first | exact want_none rfl | exact want_some rfl rfl rfl rfl)) (fun w => by go_simp) hS ?_
        simp only [Act.put, List.setIfInBounds_toArray, List.set_cons_zero, List.set_cons_succ]
        refine reg_free 8 (v := .int .i64 0) rfl (by kernel_rfl) (by kernel_rfl) (by kernel_rfl) (fun _ _ _ h => h) (by (first | exact want_none rfl | exact want_some rfl rfl rfl rfl)) (fun w => by go_simp) hS ?_
        simp only [Act.put, List.setIfInBounds_toArray, List.set_cons_zero, List.set_cons_succ]
        refine reg_step 9 (by kernel_rfl) rfl ?_
        apply st_row (hM := hM); rfl; (first | exact want_none rfl | exact want_some rfl rfl rfl rfl); rfl; rfl; exact .tail (.head _ _); rfl; rfl; exact row41
        intro w5 hM1
        clear hM
        have hM := hM1
        clear hM1
        refine ⟨hS, ?_⟩
        simp only [Act.put, List.setIfInBounds_toArray, List.set_cons_zero, List.set_cons_succ]
        refine reg_free 10 (v := .int .i64 0) rfl (by kernel_rfl) (by kernel_rfl) (by kernel_rfl) (fun _ _ _ h => h) (by (first | exact want_none rfl | exact want_some rfl rfl rfl rfl)) (fun w => by go_simp) hS ?_
        simp only [Act.put, List.setIfInBounds_toArray, List.set_cons_zero, List.set_cons_succ]
        refine reg_done (by kernel_rfl) ?_
        clear hS hfit
        go_wp2_with (first | ((with_reducible refine wpl ?_); apply sl_l (m); rfl; (first | exact want_none rfl | exact want_some rfl rfl rfl rfl); exact und22; exact size5; rfl; rfl; rfl; rfl; omega; simp only [Act.put, List.setIfInBounds_toArray, List.set_cons_zero, List.set_cons_succ]) | ((with_reducible refine wpl ?_); apply al_box (hM := hM); rfl; (first | exact want_none rfl | exact want_some rfl rfl rfl rfl); (first | (focus (go_simp; done)) | (focus (go_simp; rfl))); intro gb w1 hM1; clear hM; dsimp only [Value.cells] at hM1; have hM := hM1; clear hM1; simp only [Act.put, List.setIfInBounds_toArray, List.set_cons_zero, List.set_cons_succ]) | ((with_reducible refine wpl ?_); apply al_zero (hM := hM); rfl; (first | exact want_none rfl | exact want_some rfl rfl rfl rfl); (first | exact zero41); intro gz w1 hM1; clear hM; dsimp only [Value.cells] at hM1; have hM := hM1; clear hM1; simp only [Act.put, List.setIfInBounds_toArray, List.set_cons_zero, List.set_cons_succ]) | ((with_reducible refine wpl ?_); apply ld_row (hM := hM); rfl; (first | exact want_none rfl | exact want_some rfl rfl rfl rfl); rfl; (first | exact .head _ _ | exact .tail (.head _ _) | exact .tail (.tail (.head _ _)) | exact .tail (.tail (.tail (.head _ _))) | exact .tail (.tail (.tail (.tail (.head _ _)))) | exact .tail (.tail (.tail (.tail (.tail (.head _ _)))))); (first | exact row41); simp only [Act.put, List.setIfInBounds_toArray, List.set_cons_zero, List.set_cons_succ]) | ((with_reducible refine wpl ?_); apply st_row (hM := hM); rfl; (first | exact want_none rfl | exact want_some rfl rfl rfl rfl); rfl; (first | (focus (go_simp; done)) | (focus (go_simp; rfl))); (first | exact .head _ _ | exact .tail (.head _ _) | exact .tail (.tail (.head _ _)) | exact .tail (.tail (.tail (.head _ _))) | exact .tail (.tail (.tail (.tail (.head _ _)))) | exact .tail (.tail (.tail (.tail (.tail (.head _ _)))))); rfl; rfl; (first | exact row41); intro w1 hM1; clear hM; (try simp only [List.setIfInBounds_toArray, List.set_cons_zero, List.set_cons_succ] at hM1); (try rw [tab_setInt] at hM1);  have hM := hM1; clear hM1; simp only [Act.put, List.setIfInBounds_toArray, List.set_cons_zero, List.set_cons_succ]) | ((with_reducible refine wpl ?_); apply ld_one (hM := hM); rfl; (first | exact want_none rfl | exact want_some rfl rfl rfl rfl); rfl; (first | exact .head _ _ | exact .tail (.head _ _) | exact .tail (.tail (.head _ _)) | exact .tail (.tail (.tail (.head _ _))) | exact .tail (.tail (.tail (.tail (.head _ _)))) | exact .tail (.tail (.tail (.tail (.tail (.head _ _)))))); (first | (focus (simp only [List.getElem?_toArray, List.getElem?_cons_zero, List.getElem?_cons_succ]; rfl)) | exact tab_get (by omega) | rfl); (first | exact one3 | exact one39); simp only [Act.put, List.setIfInBounds_toArray, List.set_cons_zero, List.set_cons_succ]) | ((with_reducible refine wpl ?_); apply st_cell (hM := hM); rfl; (first | exact want_none rfl | exact want_some rfl rfl rfl rfl); rfl; (first | (focus (go_simp; done)) | (focus (go_simp; rfl))); (first | exact .head _ _ | exact .tail (.head _ _) | exact .tail (.tail (.head _ _)) | exact .tail (.tail (.tail (.head _ _))) | exact .tail (.tail (.tail (.tail (.head _ _)))) | exact .tail (.tail (.tail (.tail (.tail (.head _ _)))))); (first | (focus (simp; done)) | (focus (rw [tab_size]; omega))); rfl; (first | exact one3 | exact one39); intro w1 hM1; clear hM; (try simp only [List.setIfInBounds_toArray, List.set_cons_zero, List.set_cons_succ] at hM1); (try rw [tab_setInt] at hM1);  have hM := hM1; clear hM1; simp only [Act.put, List.setIfInBounds_toArray, List.set_cons_zero, List.set_cons_succ]))
        go_roundw
        case rel =>
          refine ⟨j + 1, r + (m), 0, s', a', m', cc', L', B', _, _, by omega, by go_num, rfl, hid_ (by have := hrm.out; omega), hid_ (fun w' fr' l' h' => ?_), hid_ (fun hj => ?_), hle.trans hl', hcs', hI', hf', hid_ (ho' hone.out), hM.perm (List.Perm.swap _ _ _)⟩
          · rw [← List.drop_drop]
            have h9 := (hbr.out w' fr' l' h').from_ hkm
            simp only [cutAt, Nat.mul_one, Nat.sub_self, Nat.sub_zero, Nat.zero_mul] at h9
            first | exact h9 | simpa [Addr.add_zero'] using h9
          · have h1 := hlast.out
            have h2 := hv.out
            have h3 := hrm.out
            obtain rfl : j = zs.length := by omega
            omega
        case measure => simp [intOf]; omega
      case inl.inr =>
        obtain ⟨kv, rfl⟩ := Int.eq_ofNat_of_zero_le (a := v) (by omega)
        have hkm : kv ≤ m := by omega
        have hr : (bs.take r).length = r := by rw [List.length_take]; have := hrm.out; omega
        have hpl : ((bs.drop r).take (kv)).length = kv := by rw [List.length_take, List.length_drop]; have := hrm.out; omega
        have hbk : BsAt B (.slice rb (kv) rc) ((bs.drop r).take (kv)) := fun w' fr' l' h' => ((hbr.out.le hle) w' fr' l' h').upto (by omega)
        have hfit : more ss.H L (bs.take r).length ((bs.drop r).take (kv)).length ≤ ss.m := by
          rw [hr, hpl]
          have h1 := more_own (H := ss.H) (L := L) (n := r) (k := kv) (by have := hcs.len _ (List.mem_cons_self ..); simpa [hr] using this) hone.out
          have h2 := hssm.out
          have h3 := hf1'.out
          have h4 : nd (r + (kv)) ≤ nd bs.length := by have := hrm.out; unfold nd; omega
          have h5 : nd bs.length ≤ 32 := by unfold nd; omega
          omega
        have hrc : m ≤ rc := (hbr.out _ _ _ (hle.mem hM)).cap_le
        have hfit := hid_ hfit
        have hr := hid_ hr
        have hpl := hid_ hpl
        refine reg_begin (fun _ => True) (by kernel_rfl) hM (fun wd hMd => ?_)
        clear hM
        have hM := hMd
        clear hMd
        have hS : True := trivial
        refine reg_free 0 (v := own p) rfl (by kernel_rfl) (by kernel_rfl) (by kernel_rfl) (fun _ _ _ h => h) (by (first | exact want_none rfl | exact want_some rfl rfl rfl rfl)) (fun w => by go_simp) hS ?_
        simp only [Act.put, List.setIfInBounds_toArray, List.set_cons_zero, List.set_cons_succ]
        refine reg_free 2 (v := .slice rb m rc) rfl (by kernel_rfl) (by kernel_rfl) (by kernel_rfl) (fun _ _ _ h => h) (by (first | exact want_none rfl | exact want_some rfl rfl rfl rfl)) (fun w => by go_simp) hS ?_
        simp only [Act.put, List.setIfInBounds_toArray, List.set_cons_zero, List.set_cons_succ]
        refine reg_free 3 (v := .int .i64 (kv : Nat)) rfl (by kernel_rfl) (by kernel_rfl) (by kernel_rfl) (fun _ _ _ h => h) (by (first | exact want_none rfl | exact want_some rfl rfl rfl rfl)) (fun w => by go_simp) hS ?_
        simp only [Act.put, List.setIfInBounds_toArray, List.set_cons_zero, List.set_cons_succ]
        refine reg_free 4 (v := .slice rb (kv) rc) rfl (by kernel_rfl) (by kernel_rfl) (by kernel_rfl) (fun _ _ _ h => h) (by (first | exact want_none rfl | exact want_some rfl rfl rfl rfl)) (fun w => run_sl_h w (kv) rfl und22 has5' rfl rfl (by first | rfl | omega) (by omega)) hS ?_
        simp only [Act.put, List.setIfInBounds_toArray, List.set_cons_zero, List.set_cons_succ]
        refine reg_step 1 (by kernel_rfl) rfl ?_
        apply ld_row (hM := hM); rfl; (first | exact want_none rfl | exact want_some rfl rfl rfl rfl); rfl; exact .tail (.head _ _); exact row41
        refine ⟨hS, ?_⟩
        simp only [Act.put, List.setIfInBounds_toArray, List.set_cons_zero, List.set_cons_succ]
        refine reg_step 5 (by kernel_rfl) rfl (call_fn rfl (want_none rfl) cf22 (cappend (c := ⟨.slice a k cc, L, bs.take r⟩) (b' := bs.take (r + (kv))) (v := (r : Nat)) (v' := (r + (kv) : Nat)) hM hcs hIs hbk (by have := hrm.out; simp only [hr.out, hpl.out]; omega) hfit.out (by simp only [hr.out]) (by rw [List.take_add]) (by rw [List.length_take]; have := hrm.out; congr 1; omega)) (by simp only [List.map_toArray, List.map_cons, List.map_nil]; rfl) ?_)
        rintro e w4 ⟨s', a', m', cc', L', B', rfl, hl', hM1, hcs', hI', hf', ho'⟩
        clear hM
        have hM := hM1
        clear hM1
        have hf' : Hid (s'.m + nd (r + (kv)) = s1.m) := hid_ (by
          rw [hr.out, hpl.out] at hf'
          have h1 := more_own (H := ss.H) (L := L) (n := r) (k := kv) (by have := hcs.len _ (List.mem_cons_self ..); simpa [hr.out] using this) hone.out
          have h2 := hssm.out
          simp only at hf'
          omega)
        refine ⟨_, rfl, ?_⟩
        refine ⟨hS, ?_⟩
        simp only [Act.put, List.setIfInBounds_toArray, List.set_cons_zero, List.set_cons_succ]
        refine reg_free 6 (v := .tuple #[.agg #[.slice a' m' cc', .int .i64 (r + (kv) : Nat)], .int .i64 0]) rfl (by kernel_rfl) (by kernel_rfl) (by kernel_rfl) (fun _ _ _ h => h) (by (first | exact want_none rfl | exact want_some rfl rfl rfl rfl)) (fun w => by go_simp) hS ?_
        simp only [Act.put, List.setIfInBounds_toArray, List.set_cons_zero, List.set_cons_succ]
        refine reg_free 7 (v := .agg #[.slice a' m' cc', .int .i64 (r + (kv) : Nat)]) rfl (by kernel_rfl) (by kernel_rfl) (by kernel_rfl) (fun _ _ _ h => h) (by (first | exact want_none rfl | exact want_some rfl rfl rfl rfl)) (fun w => by go_simp) hS ?_
        simp only [Act.put, List.setIfInBounds_toArray, List.set_cons_zero, List.set_cons_succ]
        refine reg_free 8 (v := .int .i64 0) rfl (by kernel_rfl) (by kernel_rfl) (by kernel_rfl) (fun _ _ _ h => h) (by (first | exact want_none rfl | exact want_some rfl rfl rfl rfl)) (fun w => by go_simp) hS ?_
        simp only [Act.put, List.setIfInBounds_toArray, List.set_cons_zero, List.set_cons_succ]
        refine reg_step 9 (by kernel_rfl) rfl ?_
        apply st_row (hM := hM); rfl; (first | exact want_none rfl | exact want_some rfl rfl rfl rfl); rfl; rfl; exact .tail (.head _ _); rfl; rfl; exact row41
        intro w5 hM1
        clear hM
        have hM := hM1
        clear hM1
        refine ⟨hS, ?_⟩
        simp only [Act.put, List.setIfInBounds_toArray, List.set_cons_zero, List.set_cons_succ]
        refine reg_free 10 (v := .int .i64 0) rfl (by kernel_rfl) (by kernel_rfl) (by kernel_rfl) (fun _ _ _ h => h) (by (first | exact want_none rfl | exact want_some rfl rfl rfl rfl)) (fun w => by go_simp) hS ?_
        simp only [Act.put, List.setIfInBounds_toArray, List.set_cons_zero, List.set_cons_succ]
        refine reg_done (by kernel_rfl) ?_
        clear hS hfit
        go_wp2_with (first | ((with_reducible refine wpl ?_); apply sl_l (kv); rfl; (first | exact want_none rfl | exact want_some rfl rfl rfl rfl); exact und22; exact size5; rfl; rfl; rfl; rfl; omega; simp only [Act.put, List.setIfInBounds_toArray, List.set_cons_zero, List.set_cons_succ]) | ((with_reducible refine wpl ?_); apply al_box (hM := hM); rfl; (first | exact want_none rfl | exact want_some rfl rfl rfl rfl); (first | (focus (go_simp; done)) | (focus (go_simp; rfl))); intro gb w1 hM1; clear hM; dsimp only [Value.cells] at hM1; have hM := hM1; clear hM1; simp only [Act.put, List.setIfInBounds_toArray, List.set_cons_zero, List.set_cons_succ]) | ((with_reducible refine wpl ?_); apply al_zero (hM := hM); rfl; (first | exact want_none rfl | exact want_some rfl rfl rfl rfl); (first | exact zero41); intro gz w1 hM1; clear hM; dsimp only [Value.cells] at hM1; have hM := hM1; clear hM1; simp only [Act.put, List.setIfInBounds_toArray, List.set_cons_zero, List.set_cons_succ]) | ((with_reducible refine wpl ?_); apply ld_row (hM := hM); rfl; (first | exact want_none rfl | exact want_some rfl rfl rfl rfl); rfl; (first | exact .head _ _ | exact .tail (.head _ _) | exact .tail (.tail (.head _ _)) | exact .tail (.tail (.tail (.head _ _))) | exact .tail (.tail (.tail (.tail (.head _ _)))) | exact .tail (.tail (.tail (.tail (.tail (.head _ _)))))); (first | exact row41); simp only [Act.put, List.setIfInBounds_toArray, List.set_cons_zero, List.set_cons_succ]) | ((with_reducible refine wpl ?_); apply st_row (hM := hM); rfl; (first | exact want_none rfl | exact want_some rfl rfl rfl rfl); rfl; (first | (focus (go_simp; done)) | (focus (go_simp; rfl))); (first | exact .head _ _ | exact .tail (.head _ _) | exact .tail (.tail (.head _ _)) | exact .tail (.tail (.tail (.head _ _))) | exact .tail (.tail (.tail (.tail (.head _ _)))) | exact .tail (.tail (.tail (.tail (.tail (.head _ _)))))); rfl; rfl; (first | exact row41); intro w1 hM1; clear hM; (try simp only [List.setIfInBounds_toArray, List.set_cons_zero, List.set_cons_succ] at hM1); (try rw [tab_setInt] at hM1);  have hM := hM1; clear hM1; simp only [Act.put, List.setIfInBounds_toArray, List.set_cons_zero, List.set_cons_succ]) | ((with_reducible refine wpl ?_); apply ld_one (hM := hM); rfl; (first | exact want_none rfl | exact want_some rfl rfl rfl rfl); rfl; (first | exact .head _ _ | exact .tail (.head _ _) | exact .tail (.tail (.head _ _)) | exact .tail (.tail (.tail (.head _ _))) | exact .tail (.tail (.tail (.tail (.head _ _)))) | exact .tail (.tail (.tail (.tail (.tail (.head _ _)))))); (first | (focus (simp only [List.getElem?_toArray, List.getElem?_cons_zero, List.getElem?_cons_succ]; rfl)) | exact tab_get (by omega) | rfl); (first | exact one3 | exact one39); simp only [Act.put, List.setIfInBounds_toArray, List.set_cons_zero, List.set_cons_succ]) | ((with_reducible refine wpl ?_); apply st_cell (hM := hM); rfl; (first | exact want_none rfl | exact want_some rfl rfl rfl rfl); rfl; (first | (focus (go_simp; done)) | (focus (go_simp; rfl))); (first | exact .head _ _ | exact .tail (.head _ _) | exact .tail (.tail (.head _ _)) | exact .tail (.tail (.tail (.head _ _))) | exact .tail (.tail (.tail (.tail (.head _ _)))) | exact .tail (.tail (.tail (.tail (.tail (.head _ _)))))); (first | (focus (simp; done)) | (focus (rw [tab_size]; omega))); rfl; (first | exact one3 | exact one39); intro w1 hM1; clear hM; (try simp only [List.setIfInBounds_toArray, List.set_cons_zero, List.set_cons_succ] at hM1); (try rw [tab_setInt] at hM1);  have hM := hM1; clear hM1; simp only [Act.put, List.setIfInBounds_toArray, List.set_cons_zero, List.set_cons_succ]))
        go_roundw
        case rel =>
          refine ⟨j + 1, r + (kv), m - kv, s', a', m', cc', L', B', _, _, by omega, by go_num, rfl, hid_ (by have := hrm.out; omega), hid_ (fun w' fr' l' h' => ?_), hid_ (fun hj => ?_), hle.trans hl', hcs', hI', hf', hid_ (ho' hone.out), hM.perm (List.Perm.swap _ _ _)⟩
          · rw [← List.drop_drop]
            have h9 := (hbr.out w' fr' l' h').from_ hkm
            simp only [cutAt, Nat.mul_one, Nat.sub_self, Nat.sub_zero, Nat.zero_mul] at h9
            first | exact h9 | simpa [Addr.add_zero'] using h9
          · have h1 := hlast.out
            have h2 := hv.out
            have h3 := hrm.out
            obtain rfl : j = zs.length := by omega
            omega
        case measure => simp [intOf]; omega
      case inr.inl =>
        have hkm : 0 ≤ m := by omega
        have hr : (bs.take r).length = r := by rw [List.length_take]; have := hrm.out; omega
        have hpl : ((bs.drop r).take (0)).length = 0 := by rw [List.length_take, List.length_drop]; have := hrm.out; omega
        have hbk : BsAt B (.slice rb (0) rc) ((bs.drop r).take (0)) := fun w' fr' l' h' => ((hbr.out.le hle) w' fr' l' h').upto (by omega)
        have hfit : more ss.H L (bs.take r).length ((bs.drop r).take (0)).length ≤ ss.m := by
          rw [hr, hpl]
          have h1 := more_own (H := ss.H) (L := L) (n := r) (k := 0) (by have := hcs.len _ (List.mem_cons_self ..); simpa [hr] using this) hone.out
          have h2 := hssm.out
          have h3 := hf1'.out
          have h4 : nd (r + (0)) ≤ nd bs.length := by have := hrm.out; unfold nd; omega
          have h5 : nd bs.length ≤ 32 := by unfold nd; omega
          omega
        have hrc : m ≤ rc := (hbr.out _ _ _ (hle.mem hM)).cap_le
        have hfit := hid_ hfit
        have hr := hid_ hr
        have hpl := hid_ hpl
        refine reg_begin (fun _ => True) (by kernel_rfl) hM (fun wd hMd => ?_)
        clear hM
        have hM := hMd
        clear hMd
        have hS : True := trivial
        refine reg_free 0 (v := own p) rfl (by kernel_rfl) (by kernel_rfl) (by kernel_rfl) (fun _ _ _ h => h) (by (first | exact want_none rfl | exact want_some rfl rfl rfl rfl)) (fun w => by go_simp) hS ?_
        simp only [Act.put, List.setIfInBounds_toArray, List.set_cons_zero, List.set_cons_succ]
        refine reg_free 2 (v := .slice rb m rc) rfl (by kernel_rfl) (by kernel_rfl) (by kernel_rfl) (fun _ _ _ h => h) (by (first | exact want_none rfl | exact want_some rfl rfl rfl rfl)) (fun w => by go_simp) hS ?_
        simp only [Act.put, List.setIfInBounds_toArray, List.set_cons_zero, List.set_cons_succ]
        refine reg_free 3 (v := .int .i64 0) rfl (by kernel_rfl) (by kernel_rfl) (by kernel_rfl) (fun _ _ _ h => h) (by (first | exact want_none rfl | exact want_some rfl rfl rfl rfl)) (fun w => by go_simp) hS ?_
        simp only [Act.put, List.setIfInBounds_toArray, List.set_cons_zero, List.set_cons_succ]
        refine reg_free 4 (v := .slice rb (0) rc) rfl (by kernel_rfl) (by kernel_rfl) (by kernel_rfl) (fun _ _ _ h => h) (by (first | exact want_none rfl | exact want_some rfl rfl rfl rfl)) (fun w => run_sl_h w (0) rfl und22 has5' rfl rfl (by first | rfl | omega) (by omega)) hS ?_
        simp only [Act.put, List.setIfInBounds_toArray, List.set_cons_zero, List.set_cons_succ]
        refine reg_step 1 (by kernel_rfl) rfl ?_
        apply ld_row (hM := hM); rfl; (first | exact want_none rfl | exact want_some rfl rfl rfl rfl); rfl; exact .tail (.head _ _); exact row41
        refine ⟨hS, ?_⟩
        simp only [Act.put, List.setIfInBounds_toArray, List.set_cons_zero, List.set_cons_succ]
        refine reg_step 5 (by kernel_rfl) rfl (call_fn rfl (want_none rfl) cf22 (cappend (c := ⟨.slice a k cc, L, bs.take r⟩) (b' := bs.take (r + (0))) (v := (r : Nat)) (v' := (r + (0) : Nat)) hM hcs hIs hbk (by have := hrm.out; simp only [hr.out, hpl.out]; omega) hfit.out (by simp only [hr.out]) (by rw [List.take_add]) (by rw [List.length_take]; have := hrm.out; congr 1; omega)) (by simp only [List.map_toArray, List.map_cons, List.map_nil]; rfl) ?_)
        rintro e w4 ⟨s', a', m', cc', L', B', rfl, hl', hM1, hcs', hI', hf', ho'⟩
        clear hM
        have hM := hM1
        clear hM1
        have hf' : Hid (s'.m + nd (r + (0)) = s1.m) := hid_ (by
          rw [hr.out, hpl.out] at hf'
          have h1 := more_own (H := ss.H) (L := L) (n := r) (k := 0) (by have := hcs.len _ (List.mem_cons_self ..); simpa [hr.out] using this) hone.out
          have h2 := hssm.out
          simp only at hf'
          omega)
        refine ⟨_, rfl, ?_⟩
        refine ⟨hS, ?_⟩
        simp only [Act.put, List.setIfInBounds_toArray, List.set_cons_zero, List.set_cons_succ]
        refine reg_free 6 (v := .tuple #[.agg #[.slice a' m' cc', .int .i64 (r + (0) : Nat)], .int .i64 0]) rfl (by kernel_rfl) (by kernel_rfl) (by kernel_rfl) (fun _ _ _ h => h) (by (first | exact want_none rfl | exact want_some rfl rfl rfl rfl)) (fun w => by go_simp) hS ?_
        simp only [Act.put, List.setIfInBounds_toArray, List.set_cons_zero, List.set_cons_succ]
        refine reg_free 7 (v := .agg #[.slice a' m' cc', .int .i64 (r + (0) : Nat)]) rfl (by kernel_rfl) (by kernel_rfl) (by kernel_rfl) (fun _ _ _ h => h) (by (first | exact want_none rfl | exact want_some rfl rfl rfl rfl)) (fun w => by go_simp) hS ?_
        simp only [Act.put, List.setIfInBounds_toArray, List.set_cons_zero, List.set_cons_succ]
        refine reg_free 8 (v := .int .i64 0) rfl (by kernel_rfl) (by kernel_rfl) (by kernel_rfl) (fun _ _ _ h => h) (by (first | exact want_none rfl | exact want_some rfl rfl rfl rfl)) (fun w => by go_simp) hS ?_
        simp only [Act.put, List.setIfInBounds_toArray, List.set_cons_zero, List.set_cons_succ]
        refine reg_step 9 (by kernel_rfl) rfl ?_
        apply st_row (hM := hM); rfl; (first | exact want_none rfl | exact want_some rfl rfl rfl rfl); rfl; rfl; exact .tail (.head _ _); rfl; rfl; exact row41
        intro w5 hM1
        clear hM
        have hM := hM1
        clear hM1
        refine ⟨hS, ?_⟩
        simp only [Act.put, List.setIfInBounds_toArray, List.set_cons_zero, List.set_cons_succ]
        refine reg_free 10 (v := .int .i64 0) rfl (by kernel_rfl) (by kernel_rfl) (by kernel_rfl) (fun _ _ _ h => h) (by (first | exact want_none rfl | exact want_some rfl rfl rfl rfl)) (fun w => by go_simp) hS ?_
        simp only [Act.put, List.setIfInBounds_toArray, List.set_cons_zero, List.set_cons_succ]
        refine reg_done (by kernel_rfl) ?_
        clear hS hfit
        go_wp2_with (first | ((with_reducible refine wpl ?_); apply sl_l (0); rfl; (first | exact want_none rfl | exact want_some rfl rfl rfl rfl); exact und22; exact size5; rfl; rfl; rfl; rfl; omega; simp only [Act.put, List.setIfInBounds_toArray, List.set_cons_zero, List.set_cons_succ]) | ((with_reducible refine wpl ?_); apply al_box (hM := hM); rfl; (first | exact want_none rfl | exact want_some rfl rfl rfl rfl); (first | (focus (go_simp; done)) | (focus (go_simp; rfl))); intro gb w1 hM1; clear hM; dsimp only [Value.cells] at hM1; have hM := hM1; clear hM1; simp only [Act.put, List.setIfInBounds_toArray, List.set_cons_zero, List.set_cons_succ]) | ((with_reducible refine wpl ?_); apply al_zero (hM := hM); rfl; (first | exact want_none rfl | exact want_some rfl rfl rfl rfl); (first | exact zero41); intro gz w1 hM1; clear hM; dsimp only [Value.cells] at hM1; have hM := hM1; clear hM1; simp only [Act.put, List.setIfInBounds_toArray, List.set_cons_zero, List.set_cons_succ]) | ((with_reducible refine wpl ?_); apply ld_row (hM := hM); rfl; (first | exact want_none rfl | exact want_some rfl rfl rfl rfl); rfl; (first | exact .head _ _ | exact .tail (.head _ _) | exact .tail (.tail (.head _ _)) | exact .tail (.tail (.tail (.head _ _))) | exact .tail (.tail (.tail (.tail (.head _ _)))) | exact .tail (.tail (.tail (.tail (.tail (.head _ _)))))); (first | exact row41); simp only [Act.put, List.setIfInBounds_toArray, List.set_cons_zero, List.set_cons_succ]) | ((with_reducible refine wpl ?_); apply st_row (hM := hM); rfl; (first | exact want_none rfl | exact want_some rfl rfl rfl rfl); rfl; (first | (focus (go_simp; done)) | (focus (go_simp; rfl))); (first | exact .head _ _ | exact .tail (.head _ _) | exact .tail (.tail (.head _ _)) | exact .tail (.tail (.tail (.head _ _))) | exact .tail (.tail (.tail (.tail (.head _ _)))) | exact .tail (.tail (.tail (.tail (.tail (.head _ _)))))); rfl; rfl; (first | exact row41); intro w1 hM1; clear hM; (try simp only [List.setIfInBounds_toArray, List.set_cons_zero, List.set_cons_succ] at hM1); (try rw [tab_setInt] at hM1);  have hM := hM1; clear hM1; simp only [Act.put, List.setIfInBounds_toArray, List.set_cons_zero, List.set_cons_succ]) | ((with_reducible refine wpl ?_); apply ld_one (hM := hM); rfl; (first | exact want_none rfl | exact want_some rfl rfl rfl rfl); rfl; (first | exact .head _ _ | exact .tail (.head _ _) | exact .tail (.tail (.head _ _)) | exact .tail (.tail (.tail (.head _ _))) | exact .tail (.tail (.tail (.tail (.head _ _)))) | exact .tail (.tail (.tail (.tail (.tail (.head _ _)))))); (first | (focus (simp only [List.getElem?_toArray, List.getElem?_cons_zero, List.getElem?_cons_succ]; rfl)) | exact tab_get (by omega) | rfl); (first | exact one3 | exact one39); simp only [Act.put, List.setIfInBounds_toArray, List.set_cons_zero, List.set_cons_succ]) | ((with_reducible refine wpl ?_); apply st_cell (hM := hM); rfl; (first | exact want_none rfl | exact want_some rfl rfl rfl rfl); rfl; (first | (focus (go_simp; done)) | (focus (go_simp; rfl))); (first | exact .head _ _ | exact .tail (.head _ _) | exact .tail (.tail (.head _ _)) | exact .tail (.tail (.tail (.head _ _))) | exact .tail (.tail (.tail (.tail (.head _ _)))) | exact .tail (.tail (.tail (.tail (.tail (.head _ _)))))); (first | (focus (simp; done)) | (focus (rw [tab_size]; omega))); rfl; (first | exact one3 | exact one39); intro w1 hM1; clear hM; (try simp only [List.setIfInBounds_toArray, List.set_cons_zero, List.set_cons_succ] at hM1); (try rw [tab_setInt] at hM1);  have hM := hM1; clear hM1; simp only [Act.put, List.setIfInBounds_toArray, List.set_cons_zero, List.set_cons_succ]))
        go_roundw
        case rel =>
          refine ⟨j + 1, r + (0), m, s', a', m', cc', L', B', _, _, by omega, by go_num, rfl, hid_ (by have := hrm.out; omega), hid_ (fun w' fr' l' h' => ?_), hid_ (fun hj => ?_), hle.trans hl', hcs', hI', hf', hid_ (ho' hone.out), hM.perm (List.Perm.swap _ _ _)⟩
          · rw [← List.drop_drop]
            have h9 := (hbr.out w' fr' l' h').from_ hkm
            simp only [cutAt, Nat.mul_one, Nat.sub_self, Nat.sub_zero, Nat.zero_mul] at h9
            first | exact h9 | simpa [Addr.add_zero'] using h9
          · have h1 := hlast.out
            have h2 := hv.out
            have h3 := hrm.out
            obtain rfl : j = zs.length := by omega
            omega
        case measure => simp [intOf]; omega
      case inr.inr =>
        have hkm : 0 ≤ m := by omega
        have hr : (bs.take r).length = r := by rw [List.length_take]; have := hrm.out; omega
        have hpl : ((bs.drop r).take (0)).length = 0 := by rw [List.length_take, List.length_drop]; have := hrm.out; omega
        have hbk : BsAt B (.slice rb (0) rc) ((bs.drop r).take (0)) := fun w' fr' l' h' => ((hbr.out.le hle) w' fr' l' h').upto (by omega)
        have hfit : more ss.H L (bs.take r).length ((bs.drop r).take (0)).length ≤ ss.m := by
          rw [hr, hpl]
          have h1 := more_own (H := ss.H) (L := L) (n := r) (k := 0) (by have := hcs.len _ (List.mem_cons_self ..); simpa [hr] using this) hone.out
          have h2 := hssm.out
          have h3 := hf1'.out
          have h4 : nd (r + (0)) ≤ nd bs.length := by have := hrm.out; unfold nd; omega
          have h5 : nd bs.length ≤ 32 := by unfold nd; omega
          omega
        have hrc : m ≤ rc := (hbr.out _ _ _ (hle.mem hM)).cap_le
        have hfit := hid_ hfit
        have hr := hid_ hr
        have hpl := hid_ hpl
        refine reg_begin (fun _ => True) (by kernel_rfl) hM (fun wd hMd => ?_)
        clear hM
        have hM := hMd
        clear hMd
        have hS : True := trivial
        refine reg_free 0 (v := own p) rfl (by kernel_rfl) (by kernel_rfl) (by kernel_rfl) (fun _ _ _ h => h) (by (first | exact want_none rfl | exact want_some rfl rfl rfl rfl)) (fun w => by go_simp) hS ?_
        simp only [Act.put, List.setIfInBounds_toArray, List.set_cons_zero, List.set_cons_succ]
        refine reg_free 2 (v := .slice rb m rc) rfl (by kernel_rfl) (by kernel_rfl) (by kernel_rfl) (fun _ _ _ h => h) (by (first | exact want_none rfl | exact want_some rfl rfl rfl rfl)) (fun w => by go_simp) hS ?_
        simp only [Act.put, List.setIfInBounds_toArray, List.set_cons_zero, List.set_cons_succ]
        refine reg_free 3 (v := .int .i64 0) rfl (by kernel_rfl) (by kernel_rfl) (by kernel_rfl) (fun _ _ _ h => h) (by (first | exact want_none rfl | exact want_some rfl rfl rfl rfl)) (fun w => by go_simp) hS ?_
        simp only [Act.put, List.setIfInBounds_toArray, List.set_cons_zero, List.set_cons_succ]
        refine reg_free 4 (v := .slice rb (0) rc) rfl (by kernel_rfl) (by kernel_rfl) (by kernel_rfl) (fun _ _ _ h => h) (by (first | exact want_none rfl | exact want_some rfl rfl rfl rfl)) (fun w => run_sl_h w (0) rfl und22 has5' rfl rfl (by first | rfl | omega) (by omega)) hS ?_
        simp only [Act.put, List.setIfInBounds_toArray, List.set_cons_zero, List.set_cons_succ]
        refine reg_step 1 (by kernel_rfl) rfl ?_
        apply ld_row (hM := hM); rfl; (first | exact want_none rfl | exact want_some rfl rfl rfl rfl); rfl; exact .tail (.head _ _); exact row41
        refine ⟨hS, ?_⟩
        simp only [Act.put, List.setIfInBounds_toArray, List.set_cons_zero, List.set_cons_succ]
        refine reg_step 5 (by kernel_rfl) rfl (call_fn rfl (want_none rfl) cf22 (cappend (c := ⟨.slice a k cc, L, bs.take r⟩) (b' := bs.take (r + (0))) (v := (r : Nat)) (v' := (r + (0) : Nat)) hM hcs hIs hbk (by have := hrm.out; simp only [hr.out, hpl.out]; omega) hfit.out (by simp only [hr.out]) (by rw [List.take_add]) (by rw [List.length_take]; have := hrm.out; congr 1; omega)) (by simp only [List.map_toArray, List.map_cons, List.map_nil]; rfl) ?_)
        rintro e w4 ⟨s', a', m', cc', L', B', rfl, hl', hM1, hcs', hI', hf', ho'⟩
        clear hM
        have hM := hM1
        clear hM1
        have hf' : Hid (s'.m + nd (r + (0)) = s1.m) := hid_ (by
          rw [hr.out, hpl.out] at hf'
          have h1 := more_own (H := ss.H) (L := L) (n := r) (k := 0) (by have := hcs.len _ (List.mem_cons_self ..); simpa [hr.out] using this) hone.out
          have h2 := hssm.out
          simp only at hf'
          omega)
        refine ⟨_, rfl, ?_⟩
        refine ⟨hS, ?_⟩
        simp only [Act.put, List.setIfInBounds_toArray, List.set_cons_zero, List.set_cons_succ]
        refine reg_free 6 (v := .tuple #[.agg #[.slice a' m' cc', .int .i64 (r + (0) : Nat)], .int .i64 0]) rfl (by kernel_rfl) (by kernel_rfl) (by kernel_rfl) (fun _ _ _ h => h) (by (first | exact want_none rfl | exact want_some rfl rfl rfl rfl)) (fun w => by go_simp) hS ?_
        simp only [Act.put, List.setIfInBounds_toArray, List.set_cons_zero, List.set_cons_succ]
        refine reg_free 7 (v := .agg #[.slice a' m' cc', .int .i64 (r + (0) : Nat)]) rfl (by kernel_rfl) (by kernel_rfl) (by kernel_rfl) (fun _ _ _ h => h) (by (first | exact want_none rfl | exact want_some rfl rfl rfl rfl)) (fun w => by go_simp) hS ?_
        simp only [Act.put, List.setIfInBounds_toArray, List.set_cons_zero, List.set_cons_succ]
        refine reg_free 8 (v := .int .i64 0) rfl (by kernel_rfl) (by kernel_rfl) (by kernel_rfl) (fun _ _ _ h => h) (by (first | exact want_none rfl | exact want_some rfl rfl rfl rfl)) (fun w => by go_simp) hS ?_
        simp only [Act.put, List.setIfInBounds_toArray, List.set_cons_zero, List.set_cons_succ]
        refine reg_step 9 (by kernel_rfl) rfl ?_
        apply st_row (hM := hM); rfl; (first | exact want_none rfl | exact want_some rfl rfl rfl rfl); rfl; rfl; exact .tail (.head _ _); rfl; rfl; exact row41
        intro w5 hM1
        clear hM
        have hM := hM1
        clear hM1
        refine ⟨hS, ?_⟩
        simp only [Act.put, List.setIfInBounds_toArray, List.set_cons_zero, List.set_cons_succ]
        refine reg_free 10 (v := .int .i64 0) rfl (by kernel_rfl) (by kernel_rfl) (by kernel_rfl) (fun _ _ _ h => h) (by (first | exact want_none rfl | exact want_some rfl rfl rfl rfl)) (fun w => by go_simp) hS ?_
        simp only [Act.put, List.setIfInBounds_toArray, List.set_cons_zero, List.set_cons_succ]
        refine reg_done (by kernel_rfl) ?_
        clear hS hfit
        go_wp2_with (first | ((with_reducible refine wpl ?_); apply sl_l (0); rfl; (first | exact want_none rfl | exact want_some rfl rfl rfl rfl); exact und22; exact size5; rfl; rfl; rfl; rfl; omega; simp only [Act.put, List.setIfInBounds_toArray, List.set_cons_zero, List.set_cons_succ]) | ((with_reducible refine wpl ?_); apply al_box (hM := hM); rfl; (first | exact want_none rfl | exact want_some rfl rfl rfl rfl); (first | (focus (go_simp; done)) | (focus (go_simp; rfl))); intro gb w1 hM1; clear hM; dsimp only [Value.cells] at hM1; have hM := hM1; clear hM1; simp only [Act.put, List.setIfInBounds_toArray, List.set_cons_zero, List.set_cons_succ]) | ((with_reducible refine wpl ?_); apply al_zero (hM := hM); rfl; (first | exact want_none rfl | exact want_some rfl rfl rfl rfl); (first | exact zero41); intro gz w1 hM1; clear hM; dsimp only [Value.cells] at hM1; have hM := hM1; clear hM1; simp only [Act.put, List.setIfInBounds_toArray, List.set_cons_zero, List.set_cons_succ]) | ((with_reducible refine wpl ?_); apply ld_row (hM := hM); rfl; (first | exact want_none rfl | exact want_some rfl rfl rfl rfl); rfl; (first | exact .head _ _ | exact .tail (.head _ _) | exact .tail (.tail (.head _ _)) | exact .tail (.tail (.tail (.head _ _))) | exact .tail (.tail (.tail (.tail (.head _ _)))) | exact .tail (.tail (.tail (.tail (.tail (.head _ _)))))); (first | exact row41); simp only [Act.put, List.setIfInBounds_toArray, List.set_cons_zero, List.set_cons_succ]) | ((with_reducible refine wpl ?_); apply st_row (hM := hM); rfl; (first | exact want_none rfl | exact want_some rfl rfl rfl rfl); rfl; (first | (focus (go_simp; done)) | (focus (go_simp; rfl))); (first | exact .head _ _ | exact .tail (.head _ _) | exact .tail (.tail (.head _ _)) | exact .tail (.tail (.tail (.head _ _))) | exact .tail (.tail (.tail (.tail (.head _ _)))) | exact .tail (.tail (.tail (.tail (.tail (.head _ _)))))); rfl; rfl; (first | exact row41); intro w1 hM1; clear hM; (try simp only [List.setIfInBounds_toArray, List.set_cons_zero, List.set_cons_succ] at hM1); (try rw [tab_setInt] at hM1);  have hM := hM1; clear hM1; simp only [Act.put, List.setIfInBounds_toArray, List.set_cons_zero, List.set_cons_succ]) | ((with_reducible refine wpl ?_); apply ld_one (hM := hM); rfl; (first | exact want_none rfl | exact want_some rfl rfl rfl rfl); rfl; (first | exact .head _ _ | exact .tail (.head _ _) | exact .tail (.tail (.head _ _)) | exact .tail (.tail (.tail (.head _ _))) | exact .tail (.tail (.tail (.tail (.head _ _)))) | exact .tail (.tail (.tail (.tail (.tail (.head _ _)))))); (first | (focus (simp only [List.getElem?_toArray, List.getElem?_cons_zero, List.getElem?_cons_succ]; rfl)) | exact tab_get (by omega) | rfl); (first | exact one3 | exact one39); simp only [Act.put, List.setIfInBounds_toArray, List.set_cons_zero, List.set_cons_succ]) | ((with_reducible refine wpl ?_); apply st_cell (hM := hM); rfl; (first | exact want_none rfl | exact want_some rfl rfl rfl rfl); rfl; (first | (focus (go_simp; done)) | (focus (go_simp; rfl))); (first | exact .head _ _ | exact .tail (.head _ _) | exact .tail (.tail (.head _ _)) | exact .tail (.tail (.tail (.head _ _))) | exact .tail (.tail (.tail (.tail (.head _ _)))) | exact .tail (.tail (.tail (.tail (.tail (.head _ _)))))); (first | (focus (simp; done)) | (focus (rw [tab_size]; omega))); rfl; (first | exact one3 | exact one39); intro w1 hM1; clear hM; (try simp only [List.setIfInBounds_toArray, List.set_cons_zero, List.set_cons_succ] at hM1); (try rw [tab_setInt] at hM1);  have hM := hM1; clear hM1; simp only [Act.put, List.setIfInBounds_toArray, List.set_cons_zero, List.set_cons_succ]))
        go_roundw
        case rel =>
          refine ⟨j + 1, r + (0), m, s', a', m', cc', L', B', _, _, by omega, by go_num, rfl, hid_ (by have := hrm.out; omega), hid_ (fun w' fr' l' h' => ?_), hid_ (fun hj => ?_), hle.trans hl', hcs', hI', hf', hid_ (ho' hone.out), hM.perm (List.Perm.swap _ _ _)⟩
          · rw [← List.drop_drop]
            have h9 := (hbr.out w' fr' l' h').from_ hkm
            simp only [cutAt, Nat.mul_one, Nat.sub_self, Nat.sub_zero, Nat.zero_mul] at h9
            first | exact h9 | simpa [Addr.add_zero'] using h9
          · have h1 := hlast.out
            have h2 := hv.out
            have h3 := hrm.out
            obtain rfl : j = zs.length := by omega
            omega
        case measure => simp [intOf]; omega
    · obtain rfl : j = zs.length + 1 := by omega
      obtain rfl : m = 0 := hjm.out rfl
      obtain rfl : r = bs.length := by have := hrm.out; omega
      rw [List.take_length] at hcs hIs
      have hb1 : (s1.m : Int) ≤ 100 := by have := hf1'.out; omega
      have hb2 : (ss.m : Int) ≤ 100 := by have := hssm.out; omega
      have hfin : ((s1.m : Int) - (ss.m : Int) == (nd bs.length : Int)) = true := beq_iff_eq.2 (by have := hssm.out; omega)
      go_wp2_with (first
        | ((with_reducible refine wpl ?_); apply al_box (hM := hM); rfl; (first | exact want_none rfl | exact want_some rfl rfl rfl rfl); (first | (focus (go_simp; done)) | (focus (go_simp; rfl))); intro gb w1 hM1; clear hM; dsimp only [Value.cells] at hM1; have hM := hM1; clear hM1; simp only [Act.put, List.setIfInBounds_toArray, List.set_cons_zero, List.set_cons_succ])
        | ((with_reducible refine wpl ?_); apply al_zero (hM := hM); rfl; (first | exact want_none rfl | exact want_some rfl rfl rfl rfl); (first | exact zero41); intro gz w1 hM1; clear hM; dsimp only [Value.cells] at hM1; have hM := hM1; clear hM1; simp only [Act.put, List.setIfInBounds_toArray, List.set_cons_zero, List.set_cons_succ])
        | ((with_reducible refine wpl ?_); apply ld_row (hM := hM); rfl; (first | exact want_none rfl | exact want_some rfl rfl rfl rfl); rfl; (first | exact .head _ _ | exact .tail (.head _ _) | exact .tail (.tail (.head _ _)) | exact .tail (.tail (.tail (.head _ _))) | exact .tail (.tail (.tail (.tail (.head _ _)))) | exact .tail (.tail (.tail (.tail (.tail (.head _ _)))))); (first | exact row41); simp only [Act.put, List.setIfInBounds_toArray, List.set_cons_zero, List.set_cons_succ])
        | ((with_reducible refine wpl ?_); apply st_row (hM := hM); rfl; (first | exact want_none rfl | exact want_some rfl rfl rfl rfl); rfl; (first | (focus (go_simp; done)) | (focus (go_simp; rfl))); (first | exact .head _ _ | exact .tail (.head _ _) | exact .tail (.tail (.head _ _)) | exact .tail (.tail (.tail (.head _ _))) | exact .tail (.tail (.tail (.tail (.head _ _)))) | exact .tail (.tail (.tail (.tail (.tail (.head _ _)))))); rfl; rfl; (first | exact row41); intro w1 hM1; clear hM; (try simp only [List.setIfInBounds_toArray, List.set_cons_zero, List.set_cons_succ] at hM1); (try rw [tab_setInt] at hM1);  have hM := hM1; clear hM1; simp only [Act.put, List.setIfInBounds_toArray, List.set_cons_zero, List.set_cons_succ])
        | ((with_reducible refine wpl ?_); apply ld_one (hM := hM); rfl; (first | exact want_none rfl | exact want_some rfl rfl rfl rfl); rfl; (first | exact .head _ _ | exact .tail (.head _ _) | exact .tail (.tail (.head _ _)) | exact .tail (.tail (.tail (.head _ _))) | exact .tail (.tail (.tail (.tail (.head _ _)))) | exact .tail (.tail (.tail (.tail (.tail (.head _ _)))))); (first | (focus (simp only [List.getElem?_toArray, List.getElem?_cons_zero, List.getElem?_cons_succ]; rfl)) | exact tab_get (by omega) | rfl); (first | exact one3 | exact one39); simp only [Act.put, List.setIfInBounds_toArray, List.set_cons_zero, List.set_cons_succ])
        | ((with_reducible refine wpl ?_); apply st_cell (hM := hM); rfl; (first | exact want_none rfl | exact want_some rfl rfl rfl rfl); rfl; (first | (focus (go_simp; done)) | (focus (go_simp; rfl))); (first | exact .head _ _ | exact .tail (.head _ _) | exact .tail (.tail (.head _ _)) | exact .tail (.tail (.tail (.head _ _))) | exact .tail (.tail (.tail (.tail (.head _ _)))) | exact .tail (.tail (.tail (.tail (.tail (.head _ _)))))); (first | (focus (simp; done)) | (focus (rw [tab_size]; omega))); rfl; (first | exact one3 | exact one39); intro w1 hM1; clear hM; (try simp only [List.setIfInBounds_toArray, List.set_cons_zero, List.set_cons_succ] at hM1); (try rw [tab_setInt] at hM1);  have hM := hM1; clear hM1; simp only [Act.put, List.setIfInBounds_toArray, List.set_cons_zero, List.set_cons_succ]))
      refine (cread (c := ⟨.slice a1 m1 k1, L1, bs⟩) (v := (bs.length : Nat)) (vq := 0) (vk := (bs.length : Nat)) hM hcs hIs (List.mem_cons_of_mem _ (List.mem_cons_self ..)) (by simp only; omega) 0 bs.length (by simp) rfl rfl rfl).mono ?_
      rintro e w3 ⟨g5, k_g5, cells_g5, rfl, hM1, hs_g5, hk_g5, hg_g5⟩
      clear hM
      have hM := hM1
      clear hM1
      obtain ⟨B_r5, hl_r5, hM1, r5⟩ := parkedB hM bs rfl hk_g5 (fun j hj => by rw [hg_g5 j hj, List.drop_zero, List.take_length])
      clear hM
      have hM := hM1
      clear hM1 hs_g5 hk_g5 hg_g5
      go_wp2_with (first
        | ((with_reducible refine wpl ?_); apply al_box (hM := hM); rfl; (first | exact want_none rfl | exact want_some rfl rfl rfl rfl); (first | (focus (go_simp; done)) | (focus (go_simp; rfl))); intro gb w1 hM1; clear hM; dsimp only [Value.cells] at hM1; have hM := hM1; clear hM1; simp only [Act.put, List.setIfInBounds_toArray, List.set_cons_zero, List.set_cons_succ])
        | ((with_reducible refine wpl ?_); apply al_zero (hM := hM); rfl; (first | exact want_none rfl | exact want_some rfl rfl rfl rfl); (first | exact zero41); intro gz w1 hM1; clear hM; dsimp only [Value.cells] at hM1; have hM := hM1; clear hM1; simp only [Act.put, List.setIfInBounds_toArray, List.set_cons_zero, List.set_cons_succ])
        | ((with_reducible refine wpl ?_); apply ld_row (hM := hM); rfl; (first | exact want_none rfl | exact want_some rfl rfl rfl rfl); rfl; (first | exact .head _ _ | exact .tail (.head _ _) | exact .tail (.tail (.head _ _)) | exact .tail (.tail (.tail (.head _ _))) | exact .tail (.tail (.tail (.tail (.head _ _)))) | exact .tail (.tail (.tail (.tail (.tail (.head _ _)))))); (first | exact row41); simp only [Act.put, List.setIfInBounds_toArray, List.set_cons_zero, List.set_cons_succ])
        | ((with_reducible refine wpl ?_); apply st_row (hM := hM); rfl; (first | exact want_none rfl | exact want_some rfl rfl rfl rfl); rfl; (first | (focus (go_simp; done)) | (focus (go_simp; rfl))); (first | exact .head _ _ | exact .tail (.head _ _) | exact .tail (.tail (.head _ _)) | exact .tail (.tail (.tail (.head _ _))) | exact .tail (.tail (.tail (.tail (.head _ _)))) | exact .tail (.tail (.tail (.tail (.tail (.head _ _)))))); rfl; rfl; (first | exact row41); intro w1 hM1; clear hM; (try simp only [List.setIfInBounds_toArray, List.set_cons_zero, List.set_cons_succ] at hM1); (try rw [tab_setInt] at hM1);  have hM := hM1; clear hM1; simp only [Act.put, List.setIfInBounds_toArray, List.set_cons_zero, List.set_cons_succ])
        | ((with_reducible refine wpl ?_); apply ld_one (hM := hM); rfl; (first | exact want_none rfl | exact want_some rfl rfl rfl rfl); rfl; (first | exact .head _ _ | exact .tail (.head _ _) | exact .tail (.tail (.head _ _)) | exact .tail (.tail (.tail (.head _ _))) | exact .tail (.tail (.tail (.tail (.head _ _)))) | exact .tail (.tail (.tail (.tail (.tail (.head _ _)))))); (first | (focus (simp only [List.getElem?_toArray, List.getElem?_cons_zero, List.getElem?_cons_succ]; rfl)) | exact tab_get (by omega) | rfl); (first | exact one3 | exact one39); simp only [Act.put, List.setIfInBounds_toArray, List.set_cons_zero, List.set_cons_succ])
        | ((with_reducible refine wpl ?_); apply st_cell (hM := hM); rfl; (first | exact want_none rfl | exact want_some rfl rfl rfl rfl); rfl; (first | (focus (go_simp; done)) | (focus (go_simp; rfl))); (first | exact .head _ _ | exact .tail (.head _ _) | exact .tail (.tail (.head _ _)) | exact .tail (.tail (.tail (.head _ _))) | exact .tail (.tail (.tail (.tail (.head _ _)))) | exact .tail (.tail (.tail (.tail (.tail (.head _ _)))))); (first | (focus (simp; done)) | (focus (rw [tab_size]; omega))); rfl; (first | exact one3 | exact one39); intro w1 hM1; clear hM; (try simp only [List.setIfInBounds_toArray, List.set_cons_zero, List.set_cons_succ] at hM1); (try rw [tab_setInt] at hM1);  have hM := hM1; clear hM1; simp only [Act.put, List.setIfInBounds_toArray, List.set_cons_zero, List.set_cons_succ]))
      refine (cread (c := ⟨.slice a k cc, L, bs⟩) (v := (bs.length : Nat)) (vq := 0) (vk := (bs.length : Nat)) hM hcs (hIs.le hl_r5) (List.mem_cons_self ..) (by simp only; omega) 0 bs.length (by simp) rfl rfl rfl).mono ?_
      rintro e w3 ⟨g6, k_g6, cells_g6, rfl, hM1, hs_g6, hk_g6, hg_g6⟩
      clear hM
      have hM := hM1
      clear hM1
      obtain ⟨B_r6, hl_r6, hM1, r6⟩ := parkedB hM bs rfl hk_g6 (fun j hj => by rw [hg_g6 j hj, List.drop_zero, List.take_length])
      clear hM
      have hM := hM1
      clear hM1 hs_g6 hk_g6 hg_g6
      go_wp2_with (first
        | ((with_reducible refine wpl ?_); apply cv_bs; rfl; (first | exact want_none rfl | exact want_some rfl rfl rfl rfl); exact und22; exact und5; exact und9; (first | exact r6 _ _ _ hM | exact (r5.le hl_r6) _ _ _ hM | exact (((hb0.le hl1).le hle).le (hl_r5.trans hl_r6)) _ _ _ hM); simp only [Act.put, List.setIfInBounds_toArray, List.set_cons_zero, List.set_cons_succ])
        | ((with_reducible refine wpl ?_); apply al_box (hM := hM); rfl; (first | exact want_none rfl | exact want_some rfl rfl rfl rfl); (first | (focus (go_simp; done)) | (focus (go_simp; rfl))); intro gb w1 hM1; clear hM; dsimp only [Value.cells] at hM1; have hM := hM1; clear hM1; simp only [Act.put, List.setIfInBounds_toArray, List.set_cons_zero, List.set_cons_succ])
        | ((with_reducible refine wpl ?_); apply al_zero (hM := hM); rfl; (first | exact want_none rfl | exact want_some rfl rfl rfl rfl); (first | exact zero41); intro gz w1 hM1; clear hM; dsimp only [Value.cells] at hM1; have hM := hM1; clear hM1; simp only [Act.put, List.setIfInBounds_toArray, List.set_cons_zero, List.set_cons_succ])
        | ((with_reducible refine wpl ?_); apply ld_row (hM := hM); rfl; (first | exact want_none rfl | exact want_some rfl rfl rfl rfl); rfl; (first | exact .head _ _ | exact .tail (.head _ _) | exact .tail (.tail (.head _ _)) | exact .tail (.tail (.tail (.head _ _))) | exact .tail (.tail (.tail (.tail (.head _ _)))) | exact .tail (.tail (.tail (.tail (.tail (.head _ _)))))); (first | exact row41); simp only [Act.put, List.setIfInBounds_toArray, List.set_cons_zero, List.set_cons_succ])
        | ((with_reducible refine wpl ?_); apply st_row (hM := hM); rfl; (first | exact want_none rfl | exact want_some rfl rfl rfl rfl); rfl; (first | (focus (go_simp; done)) | (focus (go_simp; rfl))); (first | exact .head _ _ | exact .tail (.head _ _) | exact .tail (.tail (.head _ _)) | exact .tail (.tail (.tail (.head _ _))) | exact .tail (.tail (.tail (.tail (.head _ _)))) | exact .tail (.tail (.tail (.tail (.tail (.head _ _)))))); rfl; rfl; (first | exact row41); intro w1 hM1; clear hM; (try simp only [List.setIfInBounds_toArray, List.set_cons_zero, List.set_cons_succ] at hM1); (try rw [tab_setInt] at hM1);  have hM := hM1; clear hM1; simp only [Act.put, List.setIfInBounds_toArray, List.set_cons_zero, List.set_cons_succ])
        | ((with_reducible refine wpl ?_); apply ld_one (hM := hM); rfl; (first | exact want_none rfl | exact want_some rfl rfl rfl rfl); rfl; (first | exact .head _ _ | exact .tail (.head _ _) | exact .tail (.tail (.head _ _)) | exact .tail (.tail (.tail (.head _ _))) | exact .tail (.tail (.tail (.tail (.head _ _)))) | exact .tail (.tail (.tail (.tail (.tail (.head _ _)))))); (first | (focus (simp only [List.getElem?_toArray, List.getElem?_cons_zero, List.getElem?_cons_succ]; rfl)) | exact tab_get (by omega) | rfl); (first | exact one3 | exact one39); simp only [Act.put, List.setIfInBounds_toArray, List.set_cons_zero, List.set_cons_succ])
        | ((with_reducible refine wpl ?_); apply st_cell (hM := hM); rfl; (first | exact want_none rfl | exact want_some rfl rfl rfl rfl); rfl; (first | (focus (go_simp; done)) | (focus (go_simp; rfl))); (first | exact .head _ _ | exact .tail (.head _ _) | exact .tail (.tail (.head _ _)) | exact .tail (.tail (.tail (.head _ _))) | exact .tail (.tail (.tail (.tail (.head _ _)))) | exact .tail (.tail (.tail (.tail (.tail (.head _ _)))))); (first | (focus (simp; done)) | (focus (rw [tab_size]; omega))); rfl; (first | exact one3 | exact one39); intro w1 hM1; clear hM; (try simp only [List.setIfInBounds_toArray, List.set_cons_zero, List.set_cons_succ] at hM1); (try rw [tab_setInt] at hM1);  have hM := hM1; clear hM1; simp only [Act.put, List.setIfInBounds_toArray, List.set_cons_zero, List.set_cons_succ]))
      refine (free hM hcs.ok (ss.m : Nat) rfl).mono ?_
      rintro e w3 ⟨rfl, hM1⟩
      clear hM
      have hM := hM1
      clear hM1
      go_wp2_with (first
        | ((with_reducible refine wpl ?_); apply al_box (hM := hM); rfl; (first | exact want_none rfl | exact want_some rfl rfl rfl rfl); (first | (focus (go_simp; done)) | (focus (go_simp; rfl))); intro gb w1 hM1; clear hM; dsimp only [Value.cells] at hM1; have hM := hM1; clear hM1; simp only [Act.put, List.setIfInBounds_toArray, List.set_cons_zero, List.set_cons_succ])
        | ((with_reducible refine wpl ?_); apply al_zero (hM := hM); rfl; (first | exact want_none rfl | exact want_some rfl rfl rfl rfl); (first | exact zero41); intro gz w1 hM1; clear hM; dsimp only [Value.cells] at hM1; have hM := hM1; clear hM1; simp only [Act.put, List.setIfInBounds_toArray, List.set_cons_zero, List.set_cons_succ])
        | ((with_reducible refine wpl ?_); apply ld_row (hM := hM); rfl; (first | exact want_none rfl | exact want_some rfl rfl rfl rfl); rfl; (first | exact .head _ _ | exact .tail (.head _ _) | exact .tail (.tail (.head _ _)) | exact .tail (.tail (.tail (.head _ _))) | exact .tail (.tail (.tail (.tail (.head _ _)))) | exact .tail (.tail (.tail (.tail (.tail (.head _ _)))))); (first | exact row41); simp only [Act.put, List.setIfInBounds_toArray, List.set_cons_zero, List.set_cons_succ])
        | ((with_reducible refine wpl ?_); apply st_row (hM := hM); rfl; (first | exact want_none rfl | exact want_some rfl rfl rfl rfl); rfl; (first | (focus (go_simp; done)) | (focus (go_simp; rfl))); (first | exact .head _ _ | exact .tail (.head _ _) | exact .tail (.tail (.head _ _)) | exact .tail (.tail (.tail (.head _ _))) | exact .tail (.tail (.tail (.tail (.head _ _)))) | exact .tail (.tail (.tail (.tail (.tail (.head _ _)))))); rfl; rfl; (first | exact row41); intro w1 hM1; clear hM; (try simp only [List.setIfInBounds_toArray, List.set_cons_zero, List.set_cons_succ] at hM1); (try rw [tab_setInt] at hM1);  have hM := hM1; clear hM1; simp only [Act.put, List.setIfInBounds_toArray, List.set_cons_zero, List.set_cons_succ])
        | ((with_reducible refine wpl ?_); apply ld_one (hM := hM); rfl; (first | exact want_none rfl | exact want_some rfl rfl rfl rfl); rfl; (first | exact .head _ _ | exact .tail (.head _ _) | exact .tail (.tail (.head _ _)) | exact .tail (.tail (.tail (.head _ _))) | exact .tail (.tail (.tail (.tail (.head _ _)))) | exact .tail (.tail (.tail (.tail (.tail (.head _ _)))))); (first | (focus (simp only [List.getElem?_toArray, List.getElem?_cons_zero, List.getElem?_cons_succ]; rfl)) | exact tab_get (by omega) | rfl); (first | exact one3 | exact one39); simp only [Act.put, List.setIfInBounds_toArray, List.set_cons_zero, List.set_cons_succ])
        | ((with_reducible refine wpl ?_); apply st_cell (hM := hM); rfl; (first | exact want_none rfl | exact want_some rfl rfl rfl rfl); rfl; (first | (focus (go_simp; done)) | (focus (go_simp; rfl))); (first | exact .head _ _ | exact .tail (.head _ _) | exact .tail (.tail (.head _ _)) | exact .tail (.tail (.tail (.head _ _))) | exact .tail (.tail (.tail (.tail (.head _ _)))) | exact .tail (.tail (.tail (.tail (.tail (.head _ _)))))); (first | (focus (simp; done)) | (focus (rw [tab_size]; omega))); rfl; (first | exact one3 | exact one39); intro w1 hM1; clear hM; (try simp only [List.setIfInBounds_toArray, List.set_cons_zero, List.set_cons_succ] at hM1); (try rw [tab_setInt] at hM1);  have hM := hM1; clear hM1; simp only [Act.put, List.setIfInBounds_toArray, List.set_cons_zero, List.set_cons_succ]))
      refine (need_ hM bs.length (by omega) rfl).mono ?_
      rintro e w3 ⟨rfl, hM1⟩
      clear hM
      have hM := hM1
      clear hM1
      go_wp2_with (first
        | ((with_reducible refine wpl ?_); apply al_box (hM := hM); rfl; (first | exact want_none rfl | exact want_some rfl rfl rfl rfl); (first | (focus (go_simp; done)) | (focus (go_simp; rfl))); intro gb w1 hM1; clear hM; dsimp only [Value.cells] at hM1; have hM := hM1; clear hM1; simp only [Act.put, List.setIfInBounds_toArray, List.set_cons_zero, List.set_cons_succ])
        | ((with_reducible refine wpl ?_); apply al_zero (hM := hM); rfl; (first | exact want_none rfl | exact want_some rfl rfl rfl rfl); (first | exact zero41); intro gz w1 hM1; clear hM; dsimp only [Value.cells] at hM1; have hM := hM1; clear hM1; simp only [Act.put, List.setIfInBounds_toArray, List.set_cons_zero, List.set_cons_succ])
        | ((with_reducible refine wpl ?_); apply ld_row (hM := hM); rfl; (first | exact want_none rfl | exact want_some rfl rfl rfl rfl); rfl; (first | exact .head _ _ | exact .tail (.head _ _) | exact .tail (.tail (.head _ _)) | exact .tail (.tail (.tail (.head _ _))) | exact .tail (.tail (.tail (.tail (.head _ _)))) | exact .tail (.tail (.tail (.tail (.tail (.head _ _)))))); (first | exact row41); simp only [Act.put, List.setIfInBounds_toArray, List.set_cons_zero, List.set_cons_succ])
        | ((with_reducible refine wpl ?_); apply st_row (hM := hM); rfl; (first | exact want_none rfl | exact want_some rfl rfl rfl rfl); rfl; (first | (focus (go_simp; done)) | (focus (go_simp; rfl))); (first | exact .head _ _ | exact .tail (.head _ _) | exact .tail (.tail (.head _ _)) | exact .tail (.tail (.tail (.head _ _))) | exact .tail (.tail (.tail (.tail (.head _ _)))) | exact .tail (.tail (.tail (.tail (.tail (.head _ _)))))); rfl; rfl; (first | exact row41); intro w1 hM1; clear hM; (try simp only [List.setIfInBounds_toArray, List.set_cons_zero, List.set_cons_succ] at hM1); (try rw [tab_setInt] at hM1);  have hM := hM1; clear hM1; simp only [Act.put, List.setIfInBounds_toArray, List.set_cons_zero, List.set_cons_succ])
        | ((with_reducible refine wpl ?_); apply ld_one (hM := hM); rfl; (first | exact want_none rfl | exact want_some rfl rfl rfl rfl); rfl; (first | exact .head _ _ | exact .tail (.head _ _) | exact .tail (.tail (.head _ _)) | exact .tail (.tail (.tail (.head _ _))) | exact .tail (.tail (.tail (.tail (.head _ _)))) | exact .tail (.tail (.tail (.tail (.tail (.head _ _)))))); (first | (focus (simp only [List.getElem?_toArray, List.getElem?_cons_zero, List.getElem?_cons_succ]; rfl)) | exact tab_get (by omega) | rfl); (first | exact one3 | exact one39); simp only [Act.put, List.setIfInBounds_toArray, List.set_cons_zero, List.set_cons_succ])
        | ((with_reducible refine wpl ?_); apply st_cell (hM := hM); rfl; (first | exact want_none rfl | exact want_some rfl rfl rfl rfl); rfl; (first | (focus (go_simp; done)) | (focus (go_simp; rfl))); (first | exact .head _ _ | exact .tail (.head _ _) | exact .tail (.tail (.head _ _)) | exact .tail (.tail (.tail (.head _ _))) | exact .tail (.tail (.tail (.tail (.head _ _)))) | exact .tail (.tail (.tail (.tail (.tail (.head _ _)))))); (first | (focus (simp; done)) | (focus (rw [tab_size]; omega))); rfl; (first | exact one3 | exact one39); intro w1 hM1; clear hM; (try simp only [List.setIfInBounds_toArray, List.set_cons_zero, List.set_cons_succ] at hM1); (try rw [tab_setInt] at hM1);  have hM := hM1; clear hM1; simp only [Act.put, List.setIfInBounds_toArray, List.set_cons_zero, List.set_cons_succ]))
      go_ret
      exact ⟨rfl, ((((hl1.trans hle).trans hl_r5).trans hl_r6).mem hM).below⟩
set_option maxRecDepth 100000 in
set_option maxHeartbeats 4000000 in
theorem parts_a (w : World) (b b2 : Option Addr) (n n2 c c2 : Nat) (hl : 2000 < n) : Calls Try.prog 10 #[.slice b n c, .slice b2 n2 c2] w fun e w' => e = .returned (.bool true) ∧ Below w.heap.size w w' := by
  have hM := Mem.start w
  have d0 : decide ((n : Int) > 2000) = true := decide_eq_true (by omega)
  go_enter Try.func10, Try.ntmps10
  go_wp2_with (first
    | (go_at_call 27; (with_reducible refine (keeps_mem _).mono ?_); rintro e w3 ⟨rfl, hb⟩; replace hM := hM.step hb; clear hb)
    | ((with_reducible refine wpl ?_); apply al_box (hM := hM); rfl; (first | exact want_none rfl | exact want_some rfl rfl rfl rfl); (first | (focus (go_simp; done)) | (focus (go_simp; rfl))); intro gb w1 hM1; clear hM; dsimp only [Value.cells] at hM1; have hM := hM1; clear hM1; simp only [Act.put, List.setIfInBounds_toArray, List.set_cons_zero, List.set_cons_succ])
    | ((with_reducible refine wpl ?_); apply al_zero (hM := hM); rfl; (first | exact want_none rfl | exact want_some rfl rfl rfl rfl); (first | exact zero41); intro gz w1 hM1; clear hM; dsimp only [Value.cells] at hM1; have hM := hM1; clear hM1; simp only [Act.put, List.setIfInBounds_toArray, List.set_cons_zero, List.set_cons_succ])
    | ((with_reducible refine wpl ?_); apply ld_row (hM := hM); rfl; (first | exact want_none rfl | exact want_some rfl rfl rfl rfl); rfl; (first | exact .head _ _ | exact .tail (.head _ _) | exact .tail (.tail (.head _ _)) | exact .tail (.tail (.tail (.head _ _))) | exact .tail (.tail (.tail (.tail (.head _ _)))) | exact .tail (.tail (.tail (.tail (.tail (.head _ _)))))); (first | exact row41); simp only [Act.put, List.setIfInBounds_toArray, List.set_cons_zero, List.set_cons_succ])
    | ((with_reducible refine wpl ?_); apply st_row (hM := hM); rfl; (first | exact want_none rfl | exact want_some rfl rfl rfl rfl); rfl; (first | (focus (go_simp; done)) | (focus (go_simp; rfl))); (first | exact .head _ _ | exact .tail (.head _ _) | exact .tail (.tail (.head _ _)) | exact .tail (.tail (.tail (.head _ _))) | exact .tail (.tail (.tail (.tail (.head _ _)))) | exact .tail (.tail (.tail (.tail (.tail (.head _ _)))))); rfl; rfl; (first | exact row41); intro w1 hM1; clear hM; (try simp only [List.setIfInBounds_toArray, List.set_cons_zero, List.set_cons_succ] at hM1); (try rw [tab_setInt] at hM1);  have hM := hM1; clear hM1; simp only [Act.put, List.setIfInBounds_toArray, List.set_cons_zero, List.set_cons_succ])
    | ((with_reducible refine wpl ?_); apply ld_one (hM := hM); rfl; (first | exact want_none rfl | exact want_some rfl rfl rfl rfl); rfl; (first | exact .head _ _ | exact .tail (.head _ _) | exact .tail (.tail (.head _ _)) | exact .tail (.tail (.tail (.head _ _))) | exact .tail (.tail (.tail (.tail (.head _ _)))) | exact .tail (.tail (.tail (.tail (.tail (.head _ _)))))); (first | (focus (simp only [List.getElem?_toArray, List.getElem?_cons_zero, List.getElem?_cons_succ]; rfl)) | exact tab_get (by omega) | rfl); (first | exact one3 | exact one39); simp only [Act.put, List.setIfInBounds_toArray, List.set_cons_zero, List.set_cons_succ])
    | ((with_reducible refine wpl ?_); apply st_cell (hM := hM); rfl; (first | exact want_none rfl | exact want_some rfl rfl rfl rfl); rfl; (first | (focus (go_simp; done)) | (focus (go_simp; rfl))); (first | exact .head _ _ | exact .tail (.head _ _) | exact .tail (.tail (.head _ _)) | exact .tail (.tail (.tail (.head _ _))) | exact .tail (.tail (.tail (.tail (.head _ _)))) | exact .tail (.tail (.tail (.tail (.tail (.head _ _)))))); (first | (focus (simp; done)) | (focus (rw [tab_size]; omega))); rfl; (first | exact one3 | exact one39); intro w1 hM1; clear hM; (try simp only [List.setIfInBounds_toArray, List.set_cons_zero, List.set_cons_succ] at hM1); (try rw [tab_setInt] at hM1);  have hM := hM1; clear hM1; simp only [Act.put, List.setIfInBounds_toArray, List.set_cons_zero, List.set_cons_succ]))
  go_ret
  exact ⟨rfl, hM.below⟩

set_option maxRecDepth 100000 in
set_option maxHeartbeats 4000000 in
theorem parts_b (w : World) (b b2 : Option Addr) (n n2 c c2 : Nat) (hl : n ≤ 2000) (hz : 50 < n2) : Calls Try.prog 10 #[.slice b n c, .slice b2 n2 c2] w fun e w' => e = .returned (.bool true) ∧ Below w.heap.size w w' := by
  have hM := Mem.start w
  have d0 : decide ((n : Int) > 2000) = false := decide_eq_false (by omega)
  have d1 : decide ((n2 : Int) > 50) = true := decide_eq_true (by omega)
  go_enter Try.func10, Try.ntmps10
  go_wp2_with (first
    | (go_at_call 27; (with_reducible refine (keeps_mem _).mono ?_); rintro e w3 ⟨rfl, hb⟩; replace hM := hM.step hb; clear hb)
    | ((with_reducible refine wpl ?_); apply al_box (hM := hM); rfl; (first | exact want_none rfl | exact want_some rfl rfl rfl rfl); (first | (focus (go_simp; done)) | (focus (go_simp; rfl))); intro gb w1 hM1; clear hM; dsimp only [Value.cells] at hM1; have hM := hM1; clear hM1; simp only [Act.put, List.setIfInBounds_toArray, List.set_cons_zero, List.set_cons_succ])
    | ((with_reducible refine wpl ?_); apply al_zero (hM := hM); rfl; (first | exact want_none rfl | exact want_some rfl rfl rfl rfl); (first | exact zero41); intro gz w1 hM1; clear hM; dsimp only [Value.cells] at hM1; have hM := hM1; clear hM1; simp only [Act.put, List.setIfInBounds_toArray, List.set_cons_zero, List.set_cons_succ])
    | ((with_reducible refine wpl ?_); apply ld_row (hM := hM); rfl; (first | exact want_none rfl | exact want_some rfl rfl rfl rfl); rfl; (first | exact .head _ _ | exact .tail (.head _ _) | exact .tail (.tail (.head _ _)) | exact .tail (.tail (.tail (.head _ _))) | exact .tail (.tail (.tail (.tail (.head _ _)))) | exact .tail (.tail (.tail (.tail (.tail (.head _ _)))))); (first | exact row41); simp only [Act.put, List.setIfInBounds_toArray, List.set_cons_zero, List.set_cons_succ])
    | ((with_reducible refine wpl ?_); apply st_row (hM := hM); rfl; (first | exact want_none rfl | exact want_some rfl rfl rfl rfl); rfl; (first | (focus (go_simp; done)) | (focus (go_simp; rfl))); (first | exact .head _ _ | exact .tail (.head _ _) | exact .tail (.tail (.head _ _)) | exact .tail (.tail (.tail (.head _ _))) | exact .tail (.tail (.tail (.tail (.head _ _)))) | exact .tail (.tail (.tail (.tail (.tail (.head _ _)))))); rfl; rfl; (first | exact row41); intro w1 hM1; clear hM; (try simp only [List.setIfInBounds_toArray, List.set_cons_zero, List.set_cons_succ] at hM1); (try rw [tab_setInt] at hM1);  have hM := hM1; clear hM1; simp only [Act.put, List.setIfInBounds_toArray, List.set_cons_zero, List.set_cons_succ])
    | ((with_reducible refine wpl ?_); apply ld_one (hM := hM); rfl; (first | exact want_none rfl | exact want_some rfl rfl rfl rfl); rfl; (first | exact .head _ _ | exact .tail (.head _ _) | exact .tail (.tail (.head _ _)) | exact .tail (.tail (.tail (.head _ _))) | exact .tail (.tail (.tail (.tail (.head _ _)))) | exact .tail (.tail (.tail (.tail (.tail (.head _ _)))))); (first | (focus (simp only [List.getElem?_toArray, List.getElem?_cons_zero, List.getElem?_cons_succ]; rfl)) | exact tab_get (by omega) | rfl); (first | exact one3 | exact one39); simp only [Act.put, List.setIfInBounds_toArray, List.set_cons_zero, List.set_cons_succ])
    | ((with_reducible refine wpl ?_); apply st_cell (hM := hM); rfl; (first | exact want_none rfl | exact want_some rfl rfl rfl rfl); rfl; (first | (focus (go_simp; done)) | (focus (go_simp; rfl))); (first | exact .head _ _ | exact .tail (.head _ _) | exact .tail (.tail (.head _ _)) | exact .tail (.tail (.tail (.head _ _))) | exact .tail (.tail (.tail (.tail (.head _ _)))) | exact .tail (.tail (.tail (.tail (.tail (.head _ _)))))); (first | (focus (simp; done)) | (focus (rw [tab_size]; omega))); rfl; (first | exact one3 | exact one39); intro w1 hM1; clear hM; (try simp only [List.setIfInBounds_toArray, List.set_cons_zero, List.set_cons_succ] at hM1); (try rw [tab_setInt] at hM1);  have hM := hM1; clear hM1; simp only [Act.put, List.setIfInBounds_toArray, List.set_cons_zero, List.set_cons_succ]))
  go_ret
  exact ⟨rfl, hM.below⟩

theorem walk (w : World) (x y : Value) (bs : List UInt8) (zs : List Int) (hB : Bytes w x bs) (hZ : Zs w y zs) : Calls Try.prog 10 #[x, y] w fun e w' => e = .returned (.bool true) ∧ Below w.heap.size w w' := by
  by_cases hl : 2000 < bs.length
  · obtain ⟨b, c, rfl⟩ := hB.len
    obtain ⟨b2, c2, rfl⟩ := hZ.len
    exact parts_a w b b2 _ _ c c2 hl
  by_cases hz : 50 < zs.length
  · obtain ⟨b, c, rfl⟩ := hB.len
    obtain ⟨b2, c2, rfl⟩ := hZ.len
    exact parts_b w b b2 _ _ c c2 (by omega) hz
  exact parts_ok w x y bs zs hB hZ (by omega) (by omega)
end Go.Proofs.Ytiamkbmefllljaa.PartsE
