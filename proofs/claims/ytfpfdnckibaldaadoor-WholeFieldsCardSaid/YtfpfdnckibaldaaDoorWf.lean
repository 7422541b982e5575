/- For every numbers, width and depth: a number that fits is read as it was written; one that does not is an error with its places. No condition. -/
import Derived.Test.YtfpfdnckibaldaaDoorFb
import Derived.Test.YtfpfdnckibaldaaDoorOp
import Derived.Deep.Slices
import Derived.OpenShut
import Derived.ChangeOld
import Derived.Deep.CutRange
import Derived.Deep.CutBlock
set_option linter.unusedSimpArgs false
set_option linter.unusedVariables false
namespace Go.Proofs.YtfpfdnckibaldaaDoor.W
open Go.RowKit Go.ChangeShapes Go.WideShapes Go.Proofs.YtfpfdnckibaldaaDoor.M Go.Proofs.YtfpfdnckibaldaaDoor.O Go.Proofs.YtfpfdnckibaldaaDoor.F Go.Proofs.YtfpfdnckibaldaaDoor.G

theorem i64_lt_ {n : Int} (h : (Lit.int .i64 n).wf = true) : n < 9223372036854775808 := by
  simp [Lit.wf] at h
  have h1 : IntKind.i64.max = 9223372036854775807 := rfl
  omega
/-- A slice of numbers that came in, as it stands in w. -/
inductive Zs (w : World) : Value → List Int → Prop
  | nil : Zs w (.slice none 0 0) []
  | at_ (a : Addr) (l : List Int) (c : Nat) (hc : l.length ≤ c) (h : ∀ (j : Nat) (b : Int), l[j]? = some b → w.cell? (a.add j) = some (.int .i64 b)) : Zs w (.slice (some a) l.length c) l

theorem Zs.len {w : World} {x : Value} {L : List Int} (h : Zs w x L) : ∃ b c, x = .slice b L.length c := by
  cases h with
  | nil => exact ⟨none, 0, rfl⟩
  | at_ a l c _ _ => exact ⟨some a, c, rfl⟩

theorem Zs.came {w0 : Base} {w : World} {fr l : List Blk} {x : Value} {L : List Int} (h : Zs w0.w x L) (hM : Mem w0 w fr l) : Zs w x L := by
  cases h with
  | nil => exact .nil
  | at_ a L c hc h => exact .at_ a L c hc (fun j b hj => (hM.oldCell (a := a.add j) (cell_lt (h j b hj))).trans (h j b hj))

set_option maxRecDepth 100000 in
theorem opened_ints {H : Type} {enc : TypeId × Value → H} {W : World} {base : Nat} {v : Value} {d : DataW H} {p : List MemPlace} (hval : Value.okWide Tryd.prog W .any base 22 v) (h : DataW.Trod enc Tryd.prog W 0 (fun _ => true) true 22 v d p) :
    ∃ zs, Zs W v zs ∧ ∀ z ∈ zs, z < 9223372036854775808 := by
  obtain ⟨a, len, cap, rfl⟩ := okWide_slice Tryd.underlying22 hval
  obtain ⟨fuel, hf⟩ := h
  have hf' : DataW.trod enc Tryd.prog W 0 (fun _ => true) true fuel 22 [.slice a len cap] = some (d, p) := hf
  rcases Go.Deep.open_slice1 Tryd.underlying22 (by kernel_rfl) hf' with ⟨hn, _⟩ | ⟨ad, len', cap', m, n, V, D, Pl, hcs, _, hle, _, hm, _, hel⟩
  · simp at hn
    obtain ⟨rfl, rfl, rfl⟩ := hn
    exact ⟨[], .nil, fun _ h => by cases h⟩
  simp only [List.cons.injEq, Value.slice.injEq, and_true] at hcs
  obtain ⟨rfl, rfl, rfl⟩ := hcs
  rw [if_pos rfl] at hm
  subst hm
  have each : ∀ i, i < len → ∃ b : Int, W.cell? (ad.add i) = some (.int .i64 b) ∧ b < 9223372036854775808 := by
    intro i hi
    obtain ⟨h1, h2⟩ := hel i (by omega)
    obtain ⟨x, hx, _, hw⟩ := DataW.trod_int Tryd.underlying2 h2
    simp at hx
    exact ⟨x, by rw [h1, hx], i64_lt_ hw⟩
  obtain ⟨f, hf2⟩ := Go.Deep.choose_lt each
  have hl : ((List.range len).map f).length = len := by rw [List.length_map, List.length_range]
  refine ⟨(List.range len).map f, ?_, fun z hz => by
    obtain ⟨i, hi, rfl⟩ := List.mem_map.1 hz
    exact (hf2 i (List.mem_range.1 hi)).2⟩
  have := Zs.at_ (w := W) ad ((List.range len).map f) m (by rw [hl]; exact hle) (fun j b hj => by
    rw [List.getElem?_map] at hj
    by_cases hjl : j < len
    · rw [List.getElem?_range hjl] at hj
      simp only [Option.map_some, Option.some.injEq] at hj
      rw [(hf2 j hjl).1, hj]
    · rw [List.getElem?_eq_none (by simpa using hjl)] at hj
      cases hj)
  rw [hl] at this
  exact this


theorem row72_ : RowTy Tryd.prog 72 3 := G.row72
theorem at3 {w0 : Base} {w : World} {fr l : List Blk} {g : Nat} {t : TypeId} {fz : Nat × Nat} (hM : Mem w0 w fr (⟨g, #[.int .u8 49, .int .u8 50, .int .u8 0], t, fz⟩ :: l)) : At w g 0 [49, 50, 0] :=
  hM.at_list (bs := [49, 50, 0]) (.head _ _)
theorem ten : oct 10 3 = [49, 50, 0] := by kernel_rfl
theorem parse3 (w : World) (g : Nat) (hA : At w g 0 [49, 50, 0]) : Calls Tryd.prog 5 #[.slice (some ⟨g, 0, none⟩) 3 3] w fun e w' => e = .returned (.tuple #[.int .i64 10, .int .i64 0]) ∧ w = w' := by
  have h := parse_ w g 0 3 [49, 50, 0] hA (by omega) (by decide)
  refine h.mono fun e w' ⟨n', e', he, hw, ho⟩ => ?_
  obtain ⟨rfl, rfl⟩ := ho 10 (by rw [← ten]; exact oct_oct (by omega) (by decide) (by decide))
  exact ⟨he, hw.symm⟩
theorem parsed (w : World) (g n v : Nat) (h2 : 2 ≤ v) (h24 : v ≤ 24) (hd : dig n < v) (h64 : n < 9223372036854775808) (hA : At w g 0 (oct n v)) : Calls Tryd.prog 5 #[.slice (some ⟨g, 0, none⟩) v v] w fun e w' => e = .returned (.tuple #[.int .i64 n, .int .i64 0]) ∧ w = w' := by
  have h := parse_ w g 0 v (oct n v) hA (by omega) (by rw [oct_len (by omega)]; omega)
  rw [oct_len (by omega)] at h
  refine h.mono fun e w' ⟨n', e', he, hw, ho⟩ => ?_
  obtain ⟨rfl, rfl⟩ := ho n (oct_oct h2 ((dig_lt h2).1 hd) h64)
  exact ⟨he, hw.symm⟩

set_option maxRecDepth 100000 in
set_option maxHeartbeats 8000000 in
theorem walk0 (w : World) (yb : Option Addr) (yc : Nat) (zs : List Int) (wi de : Int) (hC : ∀ k (hk : k < zs.length), ∃ a : Addr, yb = some a ∧ (a.add k).block < w.heap.size ∧ w.cell? (a.add k) = some (.int .i64 zs[k])) (hzb : ∀ z ∈ zs, z < 9223372036854775808)
    (hg : w.cell? ⟨0, 0, none⟩ = some (.iface 91 (.agg #[.pointer (some ⟨6, 29, none⟩)]))) :
    Calls Tryd.prog 3 #[.slice yb zs.length yc, .int .i64 wi, .int .i64 de] w fun e w' => e = .returned (.bool true) ∧ Below w.heap.size w w' := by
  have hlt : 0 < w.heap.size := by
    rcases Nat.eq_zero_or_pos w.heap.size with h0 | h
    · simp [World.cell?, h0] at hg
    · exact h
  have hM := Mem.start w
  go_enter Tryd.func3, Tryd.ntmps3
  go_upto_region 4 with (first | ((with_reducible refine wpl ?_); apply al_three (hM := hM) (ht := slb); rfl; (first | exact want_none rfl | exact want_some rfl rfl rfl rfl); (first | (focus (go_simp; done)) | (focus (go_simp; rfl))); (first | (focus (go_simp; done)) | (focus (go_simp; rfl))); (first | (focus (go_simp; done)) | (focus (go_simp; rfl))); rfl; rfl; rfl; intro gb w1 hM1; clear hM; have hM := hM1; clear hM1; simp only [Act.put, List.setIfInBounds_toArray, List.set_cons_zero, List.set_cons_succ]) | ((with_reducible refine wpl ?_); apply cv_same (hM := hM); rfl; (first | exact want_none rfl | exact want_some rfl rfl rfl rfl); exact und26; exact und5; rfl; (first | exact .head _ _ | exact .tail (.head _ _) | exact .tail (.tail (.head _ _))); intro w1 hM1; clear hM; have hM := hM1; clear hM1; simp only [Act.put, List.setIfInBounds_toArray, List.set_cons_zero, List.set_cons_succ]) | (go_at_call 5; (with_reducible refine (parse3 _ _ (at3 hM)).mono ?_); rintro e w3 ⟨rfl, rfl⟩) | (go_at_call 7; (with_reducible refine (new_ok _ 3).mono ?_); rintro e w3 ⟨rfl, rfl⟩) | (go_at_call 6; (with_reducible refine (code_ _ [3] ((hM.oldCell (a := ⟨0, 0, none⟩) hlt).trans hg)).mono ?_); rintro e w3 ⟨rfl, hb⟩; replace hM := hM.step hb; clear hb))
  replace hM := hM.none
  by_cases hn : 30 < zs.length
  · have f0 : decide ((zs.length : Int) > 30) = true := decide_eq_true (by omega)
    go_wp2
    go_ret
    exact ⟨rfl, hM.below⟩
  have f0 : decide ((zs.length : Int) > 30) = false := decide_eq_false (by omega)
  by_cases h2 : wi < 2
  · have f1 : decide (wi < 2) = true := decide_eq_true h2
    go_wp2
    go_ret
    exact ⟨rfl, hM.below⟩
  have f1 : decide (wi < 2) = false := decide_eq_false h2
  by_cases h24 : wi > 24
  · have f2 : decide (wi > 24) = true := decide_eq_true h24
    go_wp2
    go_ret
    exact ⟨rfl, hM.below⟩
  have f2 : decide (wi > 24) = false := decide_eq_false h24
  by_cases hd0 : de < 0
  · have f3 : decide (de < 0) = true := decide_eq_true hd0
    go_wp2
    go_ret
    exact ⟨rfl, hM.below⟩
  have f3 : decide (de < 0) = false := decide_eq_false hd0
  by_cases hd20 : de > 20
  · have f4 : decide (de > 20) = true := decide_eq_true hd20
    go_wp2
    go_ret
    exact ⟨rfl, hM.below⟩
  have f4 : decide (de > 20) = false := decide_eq_false hd20
  go_wp2
  clear f0 f1 f2 f3 f4
  obtain ⟨v, rfl⟩ := Int.eq_ofNat_of_zero_le (show 0 ≤ wi by omega)
  obtain ⟨d, rfl⟩ := Int.eq_ofNat_of_zero_le (show 0 ≤ de by omega)
  have hv2 : 2 ≤ v := by omega
  have hv24 : v ≤ 24 := by omega
  have hd : d ≤ 20 := by omega
  clear h2 h24 hd0 hd20
  have hw1 : IntKind.i64.wrap ((d : Int) + 1) = (d : Int) + 1 := IntWalk.i64_in _ (by omega)
  replace hw1 := hd_ hw1
  have hn30 : zs.length ≤ 30 := by omega
  clear hn
  go_loopw [55] (fun x55 wr => ∃ k : Nat, x55 = .int .i64 k ∧ k ≤ zs.length ∧ Mem w wr [] []) (fun x55 _ => zs.length - (intOf x55).toNat)
  case atStart => exact ⟨0, by go_num, Nat.zero_le _, hM⟩
  case round =>
    obtain ⟨k, rfl, hk, hMr⟩ := hrel
    clear hM
    have hM := hMr
    clear hMr
    by_cases hlk : k < zs.length
    · obtain ⟨ay, rfl, hgy, hci0⟩ := hC k hlk
      have hz := hzb _ (List.getElem_mem hlk)
      have hci := (hM.oldCell (a := ay.add k) hgy).trans hci0
      clear hci0
      generalize zs[k] = z at hz hci
      have hlki : (k : Int) < (zs.length : Int) := by omega
      rcases Bool.eq_false_or_eq_true (fitb z v) with hf | hf
      · have hf0 := of_decide_eq_true hf
        obtain ⟨n, rfl⟩ := Int.eq_ofNat_of_zero_le hf0.1
        have hdg : dig n < v := by have := hf0.2.2; simp only [Int.toNat_natCast] at this; omega
        have hn64 : n < 9223372036854775808 := by omega
        replace hf0 := hd_ hf0
        go_wp2_with (first | ((with_reducible refine wpl ?_); apply ld_cell; rfl; (first | exact want_none rfl | exact want_some rfl rfl rfl rfl); rfl; (first | exact hci | (focus (simp; exact hci)) | (focus (simp [Addr.add]; simpa [Addr.add] using hci)) | (trace_state; fail)); exact one2; simp only [Act.put, List.setIfInBounds_toArray, List.set_cons_zero, List.set_cons_succ]) | (go_at_call 8; (with_reducible refine (format_ok hM n v hn64 hv2 hv24 hdg rfl rfl).mono ?_); rintro e w3 ⟨gf, rfl, hM1⟩; clear hM; have hM := hM1; clear hM1) | (go_at_call 7; (with_reducible refine (new_nil _ k).mono ?_); rintro e w3 ⟨rfl, rfl⟩))
        go_loopw [13, 70] (fun x13 x70 wr => ∃ j : Nat, x13 = .nilIface ∧ x70 = .int .i64 j ∧ j ≤ d ∧ Mem w wr [] [⟨gf, ((oct n v).map u8).toArray, 5, (0, 0)⟩]) (fun _ x70 _ => d - (intOf x70).toNat)
        case atStart => exact ⟨0, rfl, by go_num, Nat.zero_le _, hM⟩
        case round =>
          obtain ⟨j, rfl, rfl, hj, hMr⟩ := hrel
          clear hM
          have hM := hMr
          clear hMr
          by_cases hlj : j < d
          · have hlji : (j : Int) < (d : Int) := by omega
            go_wp2_with (first | (go_at_call 9; (with_reducible refine (wrap_nil _ j).mono ?_); rintro e w3 ⟨rfl, rfl⟩))
            go_roundw
            case rel => exact ⟨j + 1, rfl, by go_num, by omega, hM⟩
            case measure => simp [intOf] <;> omega
          · have hlji : ¬ (j : Int) < (d : Int) := by omega
            go_upto_region 16 with fail
            haveI hne : Nonempty (MW (w : Base) [] _) := ⟨⟨_, hM⟩⟩
            refine wp_region_mem (by kernel_rfl) (by kernel_rfl) hM ?_
            repeat (first
              | go_big_quiet_skip
              | (go_big_quiet_want
                 first
                 | (apply q_row; rfl; rfl; (first | exact .head _ _ | exact .tail (.head _ _) | exact .tail (.tail (.head _ _)) | exact .tail (.tail (.tail (.head _ _)))); (first | exact row72_); simp only [Act.put, List.setIfInBounds_toArray, List.set_cons_zero, List.set_cons_succ]; go_big_quiet_on)
                 | (apply q_cell; rfl; rfl; (first | exact .head _ _ | exact .tail (.head _ _) | exact .tail (.tail (.head _ _)) | exact .tail (.tail (.tail (.head _ _)))); (first | (focus (simp only [List.getElem?_toArray, List.getElem?_cons_zero, List.getElem?_cons_succ]; rfl)) | rfl); (first | exact one3); simp only [Act.put, List.setIfInBounds_toArray, List.set_cons_zero, List.set_cons_succ]; go_big_quiet_on)
                 | (go_big_quiet_op
                    first
                    | go_big_quiet_on
                    | go_big_quiet_call ((first | (go_at_call 10; exact quiet_call ((fits_ _ (n : Int) v hz).mono fun e w' ⟨he, hw⟩ => ⟨he, hw ▸ Below.refl _ _⟩)))))))
            refine wpQuiet_nil ?_
            intro wq hMq
            clear hne hM
            have hM := hMq
            clear hMq
            go_wp2_with (first | (go_at_call 5; (with_reducible refine (parsed _ _ n v hv2 hv24 hdg hn64 (hM.at_list (.head _ _))).mono ?_); rintro e w3 ⟨rfl, rfl⟩))
            go_roundw
            case rel => exact ⟨k + 1, by go_num, by omega, hM.none⟩
            case measure => simp [intOf] <;> omega
      · go_wp2_with (first | ((with_reducible refine wpl ?_); apply ld_cell; rfl; (first | exact want_none rfl | exact want_some rfl rfl rfl rfl); rfl; (first | exact hci | (focus (simp; exact hci)) | (focus (simp [Addr.add]; simpa [Addr.add] using hci)) | (trace_state; fail)); exact one2; simp only [Act.put, List.setIfInBounds_toArray, List.set_cons_zero, List.set_cons_succ]) | (go_at_call 8; (with_reducible refine (format_bad hM z v hz (by omega) (by omega) hf).mono ?_); rintro e w3 ⟨rfl, hM1⟩; clear hM; have hM := hM1; clear hM1) | (go_at_call 7; (with_reducible refine (new_ok _ k).mono ?_); rintro e w3 ⟨rfl, rfl⟩))
        go_loopw [13, 70] (fun x13 x70 wr => ∃ (j : Nat) (L : List Int), x13 = ch L ∧ Hid (L.length = j + 1) ∧ x70 = .int .i64 j ∧ j ≤ d ∧ Mem w wr [] []) (fun _ x70 _ => d - (intOf x70).toNat)
        case atStart => exact ⟨0, [(k : Int)], rfl, hd_ rfl, by go_num, Nat.zero_le _, hM⟩
        case round =>
          obtain ⟨j, L, rfl, hL, rfl, hj, hMr⟩ := hrel
          clear hM
          have hM := hMr
          clear hMr
          by_cases hlj : j < d
          · have hlji : (j : Int) < (d : Int) := by omega
            go_wp2_with (first | (go_at_call 9; (with_reducible refine (wrap_ch _ j L).mono ?_); rintro e w3 ⟨rfl, rfl⟩))
            go_roundw
            case rel => exact ⟨j + 1, (j : Int) :: L, rfl, hd_ (by rw [List.length_cons, hL.out]), by go_num, by omega, hM⟩
            case measure => simp [intOf] <;> omega
          · have hlji : ¬ (j : Int) < (d : Int) := by omega
            have hLd : L.length = d + 1 := by rw [hL.out]; omega
            have hdp : ∀ w, Calls Tryd.prog 12 #[ch L] w fun e w' => e = .returned (.int .i64 ((d : Int) + 1)) ∧ Below w.heap.size w w' := fun w => (depth_ w L (by omega)).mono fun e w' ⟨he, hb⟩ => ⟨by rw [he, hLd]; rfl, hb⟩
            replace hLd := hd_ hLd
            obtain ⟨t, vv, hc, _⟩ := ch_iface L
            have hi := fun w => is_ w L
            rw [hc] at hi hdp ⊢
            replace hc := hd_ hc
            go_upto_region 16 with fail
            haveI hne : Nonempty (MW (w : Base) [] _) := ⟨⟨_, hM⟩⟩
            refine wp_region_mem (by kernel_rfl) (by kernel_rfl) hM ?_
            repeat (first
              | go_big_quiet_skip
              | (go_big_quiet_want
                 first
                 | (apply q_row; rfl; rfl; (first | exact .head _ _ | exact .tail (.head _ _) | exact .tail (.tail (.head _ _)) | exact .tail (.tail (.tail (.head _ _)))); (first | exact row72_); simp only [Act.put, List.setIfInBounds_toArray, List.set_cons_zero, List.set_cons_succ]; go_big_quiet_on)
                 | (apply q_cell; rfl; rfl; (first | exact .head _ _ | exact .tail (.head _ _) | exact .tail (.tail (.head _ _)) | exact .tail (.tail (.tail (.head _ _)))); (first | (focus (simp only [List.getElem?_toArray, List.getElem?_cons_zero, List.getElem?_cons_succ]; rfl)) | rfl); (first | exact one3); simp only [Act.put, List.setIfInBounds_toArray, List.set_cons_zero, List.set_cons_succ]; go_big_quiet_on)
                 | (go_big_quiet_op
                    first
                    | go_big_quiet_on
                    | go_big_quiet_call ((first | (go_at_call 10; exact quiet_call ((fits_ _ z v hz).mono fun e w' ⟨he, hw⟩ => ⟨he, hw ▸ Below.refl _ _⟩)))))))
            refine wpQuiet_nil ?_
            intro wq hMq
            clear hne hM
            have hM := hMq
            clear hMq
            have hw2 := hw1.out
            go_wp2_with (first | (go_at_call 11; (with_reducible refine (hi _).mono ?_); rintro e w3 ⟨rfl, hb⟩; replace hM := hM.step hb; clear hb) | (go_at_call 12; (with_reducible refine (hdp _).mono ?_); rintro e w3 ⟨rfl, hb⟩; replace hM := hM.step hb; clear hb))
            go_roundw
            case rel => exact ⟨k + 1, by go_num, by omega, hM.none⟩
            case measure => simp [intOf] <;> omega
    · have hlki : ¬ (k : Int) < (zs.length : Int) := by omega
      go_wp2
      go_ret
      exact ⟨rfl, hM.below⟩

theorem walk (w : World) (y : Value) (zs : List Int) (wi de : Int) (hZ : Zs w y zs) (hzb : ∀ z ∈ zs, z < 9223372036854775808)
    (hg : w.cell? ⟨0, 0, none⟩ = some (.iface 91 (.agg #[.pointer (some ⟨6, 29, none⟩)]))) :
    Calls Tryd.prog 3 #[y, .int .i64 wi, .int .i64 de] w fun e w' => e = .returned (.bool true) ∧ Below w.heap.size w w' := by
  cases hZ with
  | nil => exact walk0 w none 0 [] wi de (fun k hk => by simp at hk) hzb hg
  | at_ a l c hc h =>
    refine walk0 w (some a) c zs wi de (fun k hk => ?_) hzb hg
    have h1 := h k _ (List.getElem?_eq_getElem hk)
    exact ⟨a, rfl, cell_lt h1, h1⟩
end Go.Proofs.YtfpfdnckibaldaaDoor.W
