/- What a record ahead says of a field: its last record by a name; else what stands beside it. Condition: the table of powers of ten reads as the text lays it. -/
import Derived.Test.YtfpfdnckibaldaaDoorEa
import Derived.Test.YtfpfdnckibaldaaDoorShf
import Derived.Test.YtfpfdnckibaldaaDoorMemX
import Derived.Deep.CutBlock
set_option linter.unusedSimpArgs false
set_option linter.unusedVariables false
namespace Go.Proofs.YtfpfdnckibaldaaDoor.B
open Go.RowKit Go.Proofs.YtfpfdnckibaldaaDoor.M Go.Proofs.YtfpfdnckibaldaaDoor.D Go.Proofs.YtfpfdnckibaldaaDoor.E Go.Lib


theorem one9 : OneTy Tryd.prog 9 := .of (by kernel_rfl)
theorem one44 : OneTy Tryd.prog 44 := .of (by kernel_rfl)
theorem row46 : RowTy Tryd.prog 46 4 := .of (by kernel_rfl)
def Tab (w : World) : Prop := TabIs Tryd.prog w "internal/strconv.uint64pow10" .u64 pow10Tab
theorem Tab.below {w w' : World} (h : Tab w) (hb : Below w.heap.size w w') : Tab w' := by
  have hgn : Tryd.prog.globalNamed "internal/strconv.uint64pow10" = some 3 := by kernel_rfl
  unfold Tab TabIs World.var? at h ⊢
  rw [hgn] at h ⊢
  simp only [Option.bind_some] at h ⊢
  have hlt : 3 < w.heap.size := by
    rcases Nat.lt_or_ge 3 w.heap.size with h' | h'
    · exact h'
    · rw [Array.getElem?_eq_none h'] at h; cases h
  rw [hb.block 3 hlt]
  exact h
theorem fmt_ (w : World) (hT : Tab w) (n : Int) (h0 : -9223372036854775808 ≤ n) (h1 : n ≤ 9223372036854775807) : Calls Tryd.prog 39 #[.int .i64 n, .int .i64 10] w fun e w' => e = .returned (.string ⟨(itoa n).toArray⟩) ∧ Below w.heap.size w w' :=
  (Tryd.strconv_FormatInt_10 n h0 h1 w hT).mono fun e w' ⟨he, k, os, hw⟩ => ⟨he, by
    subst hw
    refine ⟨rfl, rfl, rfl, ?_, fun k hk => ?_⟩
    · simp [Sort.grow, World.drewN]
    · show (w.heap ++ os)[k]? = w.heap[k]?
      exact Array.getElem?_append_left hk⟩
theorem prs_ (w : World) (n : Int) (h0 : -9223372036854775808 ≤ n) (h1 : n ≤ 9223372036854775807) : Calls Tryd.prog 38 #[.string ⟨(itoa n).toArray⟩, .int .i64 10, .int .i64 64] w fun e w' => e = .returned (.tuple #[.int .i64 n, .nilIface]) ∧ Below w.heap.size w w' :=
  (Tryd.strconv_ParseInt_10_at64_ok ⟨(itoa n).toArray⟩ (by have := itoa_len n h0 h1; simp [ByteArray.size]; omega) n (by simpa using parse_itoa n h0 h1) w).mono fun e w' ⟨he, hw⟩ => ⟨he, by
    rcases hw with rfl | ⟨t, rfl⟩
    · exact Below.refl _ _
    · unfold bytesWorld
      have h1 : Below w.heap.size w (w.drew.alloc (.cells (bytesCells w 5 t) 5)) := (Below.refl _ _).drew.alloc (Nat.le_refl _) _
      have h2 := only_freeze (w.drew.alloc (.cells (bytesCells w 5 t) 5)) w.heap.size (bytesCells w 5 t).size
      exact ⟨h2.os.trans h1.os, h2.tape.trans h1.tape, h2.output.trans h1.output, Nat.le_trans h1.size (Nat.le_of_eq h2.size.symm), fun k hk => (h2.block k (Nat.ne_of_lt hk)).trans (h1.block k hk)⟩⟩
theorem num_ (w : World) (hT : Tab w) (n : Int) (h0 : -9223372036854775808 ≤ n) (h1 : n ≤ 9223372036854775807) : Calls Tryd.prog 33 #[.string ⟨(itoa n).toArray⟩] w fun e w' => e = .returned (.tuple #[.int .i64 n, .int .i64 0]) ∧ Below w.heap.size w w' := by
  have hM := Mem.start w
  generalize hs : (⟨(itoa n).toArray⟩ : ByteArray) = s
  have hp := fun w => prs_ w n h0 h1
  have hf := fun w hT => fmt_ w hT n h0 h1
  rw [hs] at hp hf
  replace hs := hd_ hs
  go_enter Tryd.func33, Tryd.ntmps33
  go_wp2_with (first | (go_at_call 38; (with_reducible refine (hp _).mono ?_); rintro e w3 ⟨rfl, hb⟩; replace hM := hM.step hb; clear hb) | (go_at_call 39; (with_reducible refine (hf _ (hT.below hM.below)).mono ?_); rintro e w3 ⟨rfl, hb⟩; replace hM := hM.step hb; clear hb))
  go_ret2
  exact ⟨rfl, hM.below⟩

theorem get_nil (w : World) (key : ByteArray) : Calls Tryd.prog 37 #[.slice none 0 0, .string key] w fun e w' => e = .returned (.tuple #[.string ⟨#[]⟩, .bool false]) ∧ w = w' := by
  go_enter Tryd.func37, Tryd.ntmps37
  go_wp2
  refine wp_loop_rounds 1 ?_
  rw [rounds_succ]
  go_wp2
  go_ret2
  exact ⟨rfl, rfl⟩

set_option maxHeartbeats 2000000 in
theorem get_ (w : World) (g n c i : Nat) (K : Nat → ByteArray) (v : ByteArray) (hn : n ≤ 1000) (hi : i < n) (hK : ∀ j, j < n → w.cell? ⟨g, j * 2, none⟩ = some (.string (K j))) (hV : w.cell? ⟨g, i * 2 + 1, none⟩ = some (.string v)) (hne : ∀ j, j < n → i < j → ((K j).toList == (K i).toList) = false) :
    Calls Tryd.prog 37 #[.slice (some ⟨g, 0, none⟩) n c, .string (K i)] w fun e w' => e = .returned (.tuple #[.string v, .bool true]) ∧ w = w' := by
  have hn1 : IntKind.i64.wrap ((n : Int) - 1) = ((n - 1 : Nat) : Int) := by rw [IntWalk.i64_in _ (by omega)]; omega
  go_enter Tryd.func37, Tryd.ntmps37
  go_wp2
  go_loopw [6] (fun x6 wr => ∃ j : Nat, x6 = .int .i64 j ∧ i ≤ j ∧ j < n ∧ w = wr) (fun x6 _ => (RowKit.intOf x6).toNat)
  case atStart => exact ⟨n - 1, rfl, by omega, by omega, rfl⟩
  case round =>
    obtain ⟨j, rfl, hij, hjn, rfl⟩ := hrel
    have hjni : (j : Int) < (n : Int) := by omega
    have hkj := hK j hjn
    by_cases hje : j = i
    · replace hje := hd_ hje
      have hvj : w.cell? ⟨g, j * 2 + 1, none⟩ = some (.string v) := by rw [hje.out]; exact hV
      have hkk : K j = K i := by rw [hje.out]
      rw [hkk] at hkj
      clear hkk
      generalize K i = ki at *
      go_wp2_with (first | ((with_reducible refine wpl ?_); apply ld_cell; rfl; (first | exact want_none rfl | exact want_some rfl rfl rfl rfl); rfl; (first | exact hkj | exact hvj | (trace_state; fail)); exact one9; simp only [Act.put, List.setIfInBounds_toArray, List.set_cons_zero, List.set_cons_succ]))
      go_ret2
      exact ⟨rfl, rfl⟩
    · have hk := hne j hjn (by omega)
      generalize K j = kj at hkj hk
      have hj1 : IntKind.i64.wrap ((j : Int) - 1) = ((j - 1 : Nat) : Int) := by rw [IntWalk.i64_in _ (by omega)]; omega
      go_wp2_with (first | ((with_reducible refine wpl ?_); apply ld_cell; rfl; (first | exact want_none rfl | exact want_some rfl rfl rfl rfl); rfl; (first | exact hkj | (trace_state; fail)); exact one9; simp only [Act.put, List.setIfInBounds_toArray, List.set_cons_zero, List.set_cons_succ]))
      go_roundw
      case rel => exact ⟨j - 1, by first | rfl | (go_num), by omega, by omega, trivial⟩
      case measure => simp [RowKit.intOf] <;> omega

def isE (v : ByteArray) : Bool := v.toList.isEmpty

set_option maxHeartbeats 2000000 in
theorem aget_true (w : World) (a2 a3 : ByteArray) (g n c i : Nat) (K : Nat → ByteArray) (v : ByteArray) (hn : n ≤ 1000) (hi : i < n) (hg : g < w.heap.size) (hK : ∀ j, j < n → w.cell? ⟨g, j * 2, none⟩ = some (.string (K j))) (hV : w.cell? ⟨g, i * 2 + 1, none⟩ = some (.string v)) (hne : ∀ j, j < n → i < j → ((K j).toList == (K i).toList) = false) (hv : isE v = true) : Calls Tryd.prog 32 #[.agg #[.slice none 0 0, .slice (some ⟨g, 0, none⟩) n c, .string a2, .string a3], .string (K i)] w fun e w' => e = .returned (.tuple #[.string v, .bool false]) ∧ Below w.heap.size w w' := by
  have hM := Mem.start w
  have hv' : v.toList.isEmpty = true := hv
  have hgl := fun (w' : World) (fr l : List Blk) (hM : Mem w w' fr l) => get_ w' g n c i K v hn hi (fun j hj => (hM.oldCell (a := ⟨g, j * 2, none⟩) hg).trans (hK j hj)) ((hM.oldCell (a := ⟨g, i * 2 + 1, none⟩) hg).trans hV) hne
  have hgn := fun (w : World) => get_nil w (K i)
  generalize K i = ki at hgl hgn ⊢
  go_enter Tryd.func32, Tryd.ntmps32
  go_wp2_with (first | ((with_reducible refine wpl ?_); apply al_box (hM := hM); rfl; (first | exact want_none rfl | exact want_some rfl rfl rfl rfl); (first | (focus (go_simp; done)) | (focus (go_simp; rfl))); intro gb w1 hM1; clear hM; dsimp only [Value.cells] at hM1; have hM := hM1; clear hM1; simp only [Act.put, List.setIfInBounds_toArray, List.set_cons_zero, List.set_cons_succ]) | ((with_reducible refine wpl ?_); apply ld_row (hM := hM); rfl; (first | exact want_none rfl | exact want_some rfl rfl rfl rfl); rfl; (first | exact .head _ _ | exact .tail (.head _ _) | exact .tail (.tail (.head _ _))); (first | exact row46); simp only [Act.put, List.setIfInBounds_toArray, List.set_cons_zero, List.set_cons_succ]) | ((with_reducible refine wpl ?_); apply st_row (hM := hM); rfl; (first | exact want_none rfl | exact want_some rfl rfl rfl rfl); rfl; (first | (focus (go_simp; done)) | (focus (go_simp; rfl))); (first | exact .head _ _ | exact .tail (.head _ _) | exact .tail (.tail (.head _ _))); rfl; rfl; (first | exact row46); intro w1 hM1; clear hM; (try simp only [List.setIfInBounds_toArray, List.set_cons_zero, List.set_cons_succ] at hM1);  have hM := hM1; clear hM1; simp only [Act.put, List.setIfInBounds_toArray, List.set_cons_zero, List.set_cons_succ]) | ((with_reducible refine wpl ?_); apply ld_one (hM := hM); rfl; (first | exact want_none rfl | exact want_some rfl rfl rfl rfl); rfl; (first | exact .head _ _ | exact .tail (.head _ _) | exact .tail (.tail (.head _ _))); (first | (focus (simp only [List.getElem?_toArray, List.getElem?_cons_zero, List.getElem?_cons_succ]; rfl)) | rfl); (first | exact one44 | exact one9); simp only [Act.put, List.setIfInBounds_toArray, List.set_cons_zero, List.set_cons_succ]) | ((with_reducible refine wpl ?_); apply st_cell (hM := hM); rfl; (first | exact want_none rfl | exact want_some rfl rfl rfl rfl); rfl; (first | (focus (go_simp; done)) | (focus (go_simp; rfl))); (first | exact .head _ _ | exact .tail (.head _ _) | exact .tail (.tail (.head _ _))); (first | (focus (simp; done)) | (focus (rw [tab_size]; omega))); rfl; (first | exact one44 | exact one9); intro w1 hM1; clear hM; (try simp only [List.setIfInBounds_toArray, List.set_cons_zero, List.set_cons_succ] at hM1);  have hM := hM1; clear hM1; simp only [Act.put, List.setIfInBounds_toArray, List.set_cons_zero, List.set_cons_succ]) | (go_at_call 37; (with_reducible refine (hgl _ _ _ hM).mono ?_); rintro e w3 ⟨rfl, rfl⟩))
  go_ret2
  exact ⟨rfl, hM.below⟩

set_option maxHeartbeats 2000000 in
theorem aget_false (w : World) (a2 a3 : ByteArray) (g n c i : Nat) (K : Nat → ByteArray) (v : ByteArray) (hn : n ≤ 1000) (hi : i < n) (hg : g < w.heap.size) (hK : ∀ j, j < n → w.cell? ⟨g, j * 2, none⟩ = some (.string (K j))) (hV : w.cell? ⟨g, i * 2 + 1, none⟩ = some (.string v)) (hne : ∀ j, j < n → i < j → ((K j).toList == (K i).toList) = false) (hv : isE v = false) : Calls Tryd.prog 32 #[.agg #[.slice none 0 0, .slice (some ⟨g, 0, none⟩) n c, .string a2, .string a3], .string (K i)] w fun e w' => e = .returned (.tuple #[.string v, .bool true]) ∧ Below w.heap.size w w' := by
  have hM := Mem.start w
  have hv' : v.toList.isEmpty = false := hv
  have hgl := fun (w' : World) (fr l : List Blk) (hM : Mem w w' fr l) => get_ w' g n c i K v hn hi (fun j hj => (hM.oldCell (a := ⟨g, j * 2, none⟩) hg).trans (hK j hj)) ((hM.oldCell (a := ⟨g, i * 2 + 1, none⟩) hg).trans hV) hne
  have hgn := fun (w : World) => get_nil w (K i)
  generalize K i = ki at hgl hgn ⊢
  go_enter Tryd.func32, Tryd.ntmps32
  go_wp2_with (first | ((with_reducible refine wpl ?_); apply al_box (hM := hM); rfl; (first | exact want_none rfl | exact want_some rfl rfl rfl rfl); (first | (focus (go_simp; done)) | (focus (go_simp; rfl))); intro gb w1 hM1; clear hM; dsimp only [Value.cells] at hM1; have hM := hM1; clear hM1; simp only [Act.put, List.setIfInBounds_toArray, List.set_cons_zero, List.set_cons_succ]) | ((with_reducible refine wpl ?_); apply ld_row (hM := hM); rfl; (first | exact want_none rfl | exact want_some rfl rfl rfl rfl); rfl; (first | exact .head _ _ | exact .tail (.head _ _) | exact .tail (.tail (.head _ _))); (first | exact row46); simp only [Act.put, List.setIfInBounds_toArray, List.set_cons_zero, List.set_cons_succ]) | ((with_reducible refine wpl ?_); apply st_row (hM := hM); rfl; (first | exact want_none rfl | exact want_some rfl rfl rfl rfl); rfl; (first | (focus (go_simp; done)) | (focus (go_simp; rfl))); (first | exact .head _ _ | exact .tail (.head _ _) | exact .tail (.tail (.head _ _))); rfl; rfl; (first | exact row46); intro w1 hM1; clear hM; (try simp only [List.setIfInBounds_toArray, List.set_cons_zero, List.set_cons_succ] at hM1);  have hM := hM1; clear hM1; simp only [Act.put, List.setIfInBounds_toArray, List.set_cons_zero, List.set_cons_succ]) | ((with_reducible refine wpl ?_); apply ld_one (hM := hM); rfl; (first | exact want_none rfl | exact want_some rfl rfl rfl rfl); rfl; (first | exact .head _ _ | exact .tail (.head _ _) | exact .tail (.tail (.head _ _))); (first | (focus (simp only [List.getElem?_toArray, List.getElem?_cons_zero, List.getElem?_cons_succ]; rfl)) | rfl); (first | exact one44 | exact one9); simp only [Act.put, List.setIfInBounds_toArray, List.set_cons_zero, List.set_cons_succ]) | ((with_reducible refine wpl ?_); apply st_cell (hM := hM); rfl; (first | exact want_none rfl | exact want_some rfl rfl rfl rfl); rfl; (first | (focus (go_simp; done)) | (focus (go_simp; rfl))); (first | exact .head _ _ | exact .tail (.head _ _) | exact .tail (.tail (.head _ _))); (first | (focus (simp; done)) | (focus (rw [tab_size]; omega))); rfl; (first | exact one44 | exact one9); intro w1 hM1; clear hM; (try simp only [List.setIfInBounds_toArray, List.set_cons_zero, List.set_cons_succ] at hM1);  have hM := hM1; clear hM1; simp only [Act.put, List.setIfInBounds_toArray, List.set_cons_zero, List.set_cons_succ]) | (go_at_call 37; (with_reducible refine (hgl _ _ _ hM).mono ?_); rintro e w3 ⟨rfl, rfl⟩))
  go_ret2
  exact ⟨rfl, hM.below⟩

set_option maxHeartbeats 2000000 in
theorem aget_nil (w : World) (a2 a3 ki : ByteArray) : Calls Tryd.prog 32 #[.agg #[.slice none 0 0, .slice none 0 0, .string a2, .string a3], .string ki] w fun e w' => e = .returned (.tuple #[.string ⟨#[]⟩, .bool false]) ∧ Below w.heap.size w w' := by
  have hM := Mem.start w
  go_enter Tryd.func32, Tryd.ntmps32
  go_wp2_with (first | ((with_reducible refine wpl ?_); apply al_box (hM := hM); rfl; (first | exact want_none rfl | exact want_some rfl rfl rfl rfl); (first | (focus (go_simp; done)) | (focus (go_simp; rfl))); intro gb w1 hM1; clear hM; dsimp only [Value.cells] at hM1; have hM := hM1; clear hM1; simp only [Act.put, List.setIfInBounds_toArray, List.set_cons_zero, List.set_cons_succ]) | ((with_reducible refine wpl ?_); apply ld_row (hM := hM); rfl; (first | exact want_none rfl | exact want_some rfl rfl rfl rfl); rfl; (first | exact .head _ _ | exact .tail (.head _ _) | exact .tail (.tail (.head _ _))); (first | exact row46); simp only [Act.put, List.setIfInBounds_toArray, List.set_cons_zero, List.set_cons_succ]) | ((with_reducible refine wpl ?_); apply st_row (hM := hM); rfl; (first | exact want_none rfl | exact want_some rfl rfl rfl rfl); rfl; (first | (focus (go_simp; done)) | (focus (go_simp; rfl))); (first | exact .head _ _ | exact .tail (.head _ _) | exact .tail (.tail (.head _ _))); rfl; rfl; (first | exact row46); intro w1 hM1; clear hM; (try simp only [List.setIfInBounds_toArray, List.set_cons_zero, List.set_cons_succ] at hM1);  have hM := hM1; clear hM1; simp only [Act.put, List.setIfInBounds_toArray, List.set_cons_zero, List.set_cons_succ]) | ((with_reducible refine wpl ?_); apply ld_one (hM := hM); rfl; (first | exact want_none rfl | exact want_some rfl rfl rfl rfl); rfl; (first | exact .head _ _ | exact .tail (.head _ _) | exact .tail (.tail (.head _ _))); (first | (focus (simp only [List.getElem?_toArray, List.getElem?_cons_zero, List.getElem?_cons_succ]; rfl)) | rfl); (first | exact one44 | exact one9); simp only [Act.put, List.setIfInBounds_toArray, List.set_cons_zero, List.set_cons_succ]) | ((with_reducible refine wpl ?_); apply st_cell (hM := hM); rfl; (first | exact want_none rfl | exact want_some rfl rfl rfl rfl); rfl; (first | (focus (go_simp; done)) | (focus (go_simp; rfl))); (first | exact .head _ _ | exact .tail (.head _ _) | exact .tail (.tail (.head _ _))); (first | (focus (simp; done)) | (focus (rw [tab_size]; omega))); rfl; (first | exact one44 | exact one9); intro w1 hM1; clear hM; (try simp only [List.setIfInBounds_toArray, List.set_cons_zero, List.set_cons_succ] at hM1);  have hM := hM1; clear hM1; simp only [Act.put, List.setIfInBounds_toArray, List.set_cons_zero, List.set_cons_succ]) | (go_at_call 37; (with_reducible refine (get_nil _ ki).mono ?_); rintro e w3 ⟨rfl, rfl⟩))
  go_ret2
  exact ⟨rfl, hM.below⟩

set_option maxHeartbeats 2000000 in
theorem text_v (w : World) (a2 a3 dfl fb : ByteArray) (g n c i : Nat) (K : Nat → ByteArray) (v : ByteArray) (hn : n ≤ 1000) (hi : i < n) (hg : g < w.heap.size) (hK : ∀ j, j < n → w.cell? ⟨g, j * 2, none⟩ = some (.string (K j))) (hV : w.cell? ⟨g, i * 2 + 1, none⟩ = some (.string v)) (hne : ∀ j, j < n → i < j → ((K j).toList == (K i).toList) = false) (hv : isE v = false) : Calls Tryd.prog 22 #[.agg #[.slice none 0 0, .slice (some ⟨g, 0, none⟩) n c, .string a2, .string a3], .string (K i), .string dfl, .string fb] w fun e w' => e = .returned (.string v) ∧ Below w.heap.size w w' := by
  have hM := Mem.start w
  have hgl := fun (w' : World) (fr l : List Blk) (hM : Mem w w' fr l) => aget_false w' a2 a3 g n c i K v hn hi (Nat.lt_of_lt_of_le hg hM.size) (fun j hj => (hM.oldCell (a := ⟨g, j * 2, none⟩) hg).trans (hK j hj)) ((hM.oldCell (a := ⟨g, i * 2 + 1, none⟩) hg).trans hV) hne hv
  generalize K i = ki at hgl ⊢
  go_enter Tryd.func22, Tryd.ntmps22
  go_wp2_with (first | ((with_reducible refine wpl ?_); apply al_box (hM := hM); rfl; (first | exact want_none rfl | exact want_some rfl rfl rfl rfl); (first | (focus (go_simp; done)) | (focus (go_simp; rfl))); intro gb w1 hM1; clear hM; dsimp only [Value.cells] at hM1; have hM := hM1; clear hM1; simp only [Act.put, List.setIfInBounds_toArray, List.set_cons_zero, List.set_cons_succ]) | ((with_reducible refine wpl ?_); apply ld_row (hM := hM); rfl; (first | exact want_none rfl | exact want_some rfl rfl rfl rfl); rfl; (first | exact .head _ _ | exact .tail (.head _ _) | exact .tail (.tail (.head _ _))); (first | exact row46); simp only [Act.put, List.setIfInBounds_toArray, List.set_cons_zero, List.set_cons_succ]) | ((with_reducible refine wpl ?_); apply st_row (hM := hM); rfl; (first | exact want_none rfl | exact want_some rfl rfl rfl rfl); rfl; (first | (focus (go_simp; done)) | (focus (go_simp; rfl))); (first | exact .head _ _ | exact .tail (.head _ _) | exact .tail (.tail (.head _ _))); rfl; rfl; (first | exact row46); intro w1 hM1; clear hM; (try simp only [List.setIfInBounds_toArray, List.set_cons_zero, List.set_cons_succ] at hM1);  have hM := hM1; clear hM1; simp only [Act.put, List.setIfInBounds_toArray, List.set_cons_zero, List.set_cons_succ]) | ((with_reducible refine wpl ?_); apply ld_one (hM := hM); rfl; (first | exact want_none rfl | exact want_some rfl rfl rfl rfl); rfl; (first | exact .head _ _ | exact .tail (.head _ _) | exact .tail (.tail (.head _ _))); (first | (focus (simp only [List.getElem?_toArray, List.getElem?_cons_zero, List.getElem?_cons_succ]; rfl)) | rfl); (first | exact one44 | exact one9); simp only [Act.put, List.setIfInBounds_toArray, List.set_cons_zero, List.set_cons_succ]) | ((with_reducible refine wpl ?_); apply st_cell (hM := hM); rfl; (first | exact want_none rfl | exact want_some rfl rfl rfl rfl); rfl; (first | (focus (go_simp; done)) | (focus (go_simp; rfl))); (first | exact .head _ _ | exact .tail (.head _ _) | exact .tail (.tail (.head _ _))); (first | (focus (simp; done)) | (focus (rw [tab_size]; omega))); rfl; (first | exact one44 | exact one9); intro w1 hM1; clear hM; (try simp only [List.setIfInBounds_toArray, List.set_cons_zero, List.set_cons_succ] at hM1);  have hM := hM1; clear hM1; simp only [Act.put, List.setIfInBounds_toArray, List.set_cons_zero, List.set_cons_succ]) | (go_at_call 32; (with_reducible refine (hgl _ _ _ hM).mono ?_); rintro e w3 ⟨rfl, hb⟩; replace hM := hM.step hb; clear hb))
  go_ret
  exact ⟨rfl, hM.below⟩

set_option maxHeartbeats 2000000 in
theorem text_o (w : World) (a2 a3 dfl fb : ByteArray) (g n c i : Nat) (K : Nat → ByteArray) (v : ByteArray) (hn : n ≤ 1000) (hi : i < n) (hg : g < w.heap.size) (hK : ∀ j, j < n → w.cell? ⟨g, j * 2, none⟩ = some (.string (K j))) (hV : w.cell? ⟨g, i * 2 + 1, none⟩ = some (.string v)) (hne : ∀ j, j < n → i < j → ((K j).toList == (K i).toList) = false) (hv : isE v = true) (hd : isE dfl = false) : Calls Tryd.prog 22 #[.agg #[.slice none 0 0, .slice (some ⟨g, 0, none⟩) n c, .string a2, .string a3], .string (K i), .string dfl, .string fb] w fun e w' => e = .returned (.string dfl) ∧ Below w.heap.size w w' := by
  have hM := Mem.start w
  have hd' : dfl.toList.isEmpty = false := hd
  have hgl := fun (w' : World) (fr l : List Blk) (hM : Mem w w' fr l) => aget_true w' a2 a3 g n c i K v hn hi (Nat.lt_of_lt_of_le hg hM.size) (fun j hj => (hM.oldCell (a := ⟨g, j * 2, none⟩) hg).trans (hK j hj)) ((hM.oldCell (a := ⟨g, i * 2 + 1, none⟩) hg).trans hV) hne hv
  generalize K i = ki at hgl ⊢
  go_enter Tryd.func22, Tryd.ntmps22
  go_wp2_with (first | ((with_reducible refine wpl ?_); apply al_box (hM := hM); rfl; (first | exact want_none rfl | exact want_some rfl rfl rfl rfl); (first | (focus (go_simp; done)) | (focus (go_simp; rfl))); intro gb w1 hM1; clear hM; dsimp only [Value.cells] at hM1; have hM := hM1; clear hM1; simp only [Act.put, List.setIfInBounds_toArray, List.set_cons_zero, List.set_cons_succ]) | ((with_reducible refine wpl ?_); apply ld_row (hM := hM); rfl; (first | exact want_none rfl | exact want_some rfl rfl rfl rfl); rfl; (first | exact .head _ _ | exact .tail (.head _ _) | exact .tail (.tail (.head _ _))); (first | exact row46); simp only [Act.put, List.setIfInBounds_toArray, List.set_cons_zero, List.set_cons_succ]) | ((with_reducible refine wpl ?_); apply st_row (hM := hM); rfl; (first | exact want_none rfl | exact want_some rfl rfl rfl rfl); rfl; (first | (focus (go_simp; done)) | (focus (go_simp; rfl))); (first | exact .head _ _ | exact .tail (.head _ _) | exact .tail (.tail (.head _ _))); rfl; rfl; (first | exact row46); intro w1 hM1; clear hM; (try simp only [List.setIfInBounds_toArray, List.set_cons_zero, List.set_cons_succ] at hM1);  have hM := hM1; clear hM1; simp only [Act.put, List.setIfInBounds_toArray, List.set_cons_zero, List.set_cons_succ]) | ((with_reducible refine wpl ?_); apply ld_one (hM := hM); rfl; (first | exact want_none rfl | exact want_some rfl rfl rfl rfl); rfl; (first | exact .head _ _ | exact .tail (.head _ _) | exact .tail (.tail (.head _ _))); (first | (focus (simp only [List.getElem?_toArray, List.getElem?_cons_zero, List.getElem?_cons_succ]; rfl)) | rfl); (first | exact one44 | exact one9); simp only [Act.put, List.setIfInBounds_toArray, List.set_cons_zero, List.set_cons_succ]) | ((with_reducible refine wpl ?_); apply st_cell (hM := hM); rfl; (first | exact want_none rfl | exact want_some rfl rfl rfl rfl); rfl; (first | (focus (go_simp; done)) | (focus (go_simp; rfl))); (first | exact .head _ _ | exact .tail (.head _ _) | exact .tail (.tail (.head _ _))); (first | (focus (simp; done)) | (focus (rw [tab_size]; omega))); rfl; (first | exact one44 | exact one9); intro w1 hM1; clear hM; (try simp only [List.setIfInBounds_toArray, List.set_cons_zero, List.set_cons_succ] at hM1);  have hM := hM1; clear hM1; simp only [Act.put, List.setIfInBounds_toArray, List.set_cons_zero, List.set_cons_succ]) | (go_at_call 32; (with_reducible refine (hgl _ _ _ hM).mono ?_); rintro e w3 ⟨rfl, hb⟩; replace hM := hM.step hb; clear hb))
  go_ret
  exact ⟨rfl, hM.below⟩

set_option maxHeartbeats 2000000 in
theorem text_nil (w : World) (a2 a3 ki dfl fb : ByteArray) (hd : isE dfl = true) : Calls Tryd.prog 22 #[.agg #[.slice none 0 0, .slice none 0 0, .string a2, .string a3], .string ki, .string dfl, .string fb] w fun e w' => e = .returned (.string fb) ∧ Below w.heap.size w w' := by
  have hM := Mem.start w
  have hd' : dfl.toList.isEmpty = true := hd
  go_enter Tryd.func22, Tryd.ntmps22
  go_wp2_with (first | ((with_reducible refine wpl ?_); apply al_box (hM := hM); rfl; (first | exact want_none rfl | exact want_some rfl rfl rfl rfl); (first | (focus (go_simp; done)) | (focus (go_simp; rfl))); intro gb w1 hM1; clear hM; dsimp only [Value.cells] at hM1; have hM := hM1; clear hM1; simp only [Act.put, List.setIfInBounds_toArray, List.set_cons_zero, List.set_cons_succ]) | ((with_reducible refine wpl ?_); apply ld_row (hM := hM); rfl; (first | exact want_none rfl | exact want_some rfl rfl rfl rfl); rfl; (first | exact .head _ _ | exact .tail (.head _ _) | exact .tail (.tail (.head _ _))); (first | exact row46); simp only [Act.put, List.setIfInBounds_toArray, List.set_cons_zero, List.set_cons_succ]) | ((with_reducible refine wpl ?_); apply st_row (hM := hM); rfl; (first | exact want_none rfl | exact want_some rfl rfl rfl rfl); rfl; (first | (focus (go_simp; done)) | (focus (go_simp; rfl))); (first | exact .head _ _ | exact .tail (.head _ _) | exact .tail (.tail (.head _ _))); rfl; rfl; (first | exact row46); intro w1 hM1; clear hM; (try simp only [List.setIfInBounds_toArray, List.set_cons_zero, List.set_cons_succ] at hM1);  have hM := hM1; clear hM1; simp only [Act.put, List.setIfInBounds_toArray, List.set_cons_zero, List.set_cons_succ]) | ((with_reducible refine wpl ?_); apply ld_one (hM := hM); rfl; (first | exact want_none rfl | exact want_some rfl rfl rfl rfl); rfl; (first | exact .head _ _ | exact .tail (.head _ _) | exact .tail (.tail (.head _ _))); (first | (focus (simp only [List.getElem?_toArray, List.getElem?_cons_zero, List.getElem?_cons_succ]; rfl)) | rfl); (first | exact one44 | exact one9); simp only [Act.put, List.setIfInBounds_toArray, List.set_cons_zero, List.set_cons_succ]) | ((with_reducible refine wpl ?_); apply st_cell (hM := hM); rfl; (first | exact want_none rfl | exact want_some rfl rfl rfl rfl); rfl; (first | (focus (go_simp; done)) | (focus (go_simp; rfl))); (first | exact .head _ _ | exact .tail (.head _ _) | exact .tail (.tail (.head _ _))); (first | (focus (simp; done)) | (focus (rw [tab_size]; omega))); rfl; (first | exact one44 | exact one9); intro w1 hM1; clear hM; (try simp only [List.setIfInBounds_toArray, List.set_cons_zero, List.set_cons_succ] at hM1);  have hM := hM1; clear hM1; simp only [Act.put, List.setIfInBounds_toArray, List.set_cons_zero, List.set_cons_succ]) | (go_at_call 32; (with_reducible refine (aget_nil _ a2 a3 ki).mono ?_); rintro e w3 ⟨rfl, hb⟩; replace hM := hM.step hb; clear hb))
  go_ret
  exact ⟨rfl, hM.below⟩

theorem isE_itoa (n : Int) : isE ⟨(itoa n).toArray⟩ = false := by
  unfold isE
  rw [ByteArray.toList_eq]
  have h : itoa n ≠ [] := by
    unfold itoa
    split
    · simp
    · exact dec_ne _
  simpa using h

set_option maxHeartbeats 2000000 in
theorem number_l (w : World) (hT : Tab w) (a2 a3 : ByteArray) (m x : Int) (h0 : -9223372036854775808 ≤ x) (h1 : x ≤ 9223372036854775807) (g n c i : Nat) (K : Nat → ByteArray) (hn : n ≤ 1000) (hi : i < n) (hg : g < w.heap.size) (hK : ∀ j, j < n → w.cell? ⟨g, j * 2, none⟩ = some (.string (K j))) (hV : w.cell? ⟨g, i * 2 + 1, none⟩ = some (.string ⟨(itoa x).toArray⟩)) (hne : ∀ j, j < n → i < j → ((K j).toList == (K i).toList) = false) : Calls Tryd.prog 24 #[.agg #[.slice none 0 0, .slice (some ⟨g, 0, none⟩) n c, .string a2, .string a3], .string (K i), .int .i64 m] w fun e w' => e = .returned (.tuple #[.int .i64 x, .int .i64 0]) ∧ Below w.heap.size w w' := by
  have hM := Mem.start w
  have hgl := fun (w' : World) (fr l : List Blk) (hM : Mem w w' fr l) => aget_false w' a2 a3 g n c i K ⟨(itoa x).toArray⟩ hn hi (Nat.lt_of_lt_of_le hg hM.size) (fun j hj => (hM.oldCell (a := ⟨g, j * 2, none⟩) hg).trans (hK j hj)) ((hM.oldCell (a := ⟨g, i * 2 + 1, none⟩) hg).trans hV) hne (isE_itoa x)
  have hnm := fun (w' : World) (fr l : List Blk) (hM : Mem w w' fr l) => num_ w' (hT.below hM.below) x h0 h1
  generalize K i = ki at hgl ⊢
  generalize (⟨(itoa x).toArray⟩ : ByteArray) = s at hgl hnm
  go_enter Tryd.func24, Tryd.ntmps24
  go_wp2_with (first | ((with_reducible refine wpl ?_); apply al_box (hM := hM); rfl; (first | exact want_none rfl | exact want_some rfl rfl rfl rfl); (first | (focus (go_simp; done)) | (focus (go_simp; rfl))); intro gb w1 hM1; clear hM; dsimp only [Value.cells] at hM1; have hM := hM1; clear hM1; simp only [Act.put, List.setIfInBounds_toArray, List.set_cons_zero, List.set_cons_succ]) | ((with_reducible refine wpl ?_); apply ld_row (hM := hM); rfl; (first | exact want_none rfl | exact want_some rfl rfl rfl rfl); rfl; (first | exact .head _ _ | exact .tail (.head _ _) | exact .tail (.tail (.head _ _))); (first | exact row46); simp only [Act.put, List.setIfInBounds_toArray, List.set_cons_zero, List.set_cons_succ]) | ((with_reducible refine wpl ?_); apply st_row (hM := hM); rfl; (first | exact want_none rfl | exact want_some rfl rfl rfl rfl); rfl; (first | (focus (go_simp; done)) | (focus (go_simp; rfl))); (first | exact .head _ _ | exact .tail (.head _ _) | exact .tail (.tail (.head _ _))); rfl; rfl; (first | exact row46); intro w1 hM1; clear hM; (try simp only [List.setIfInBounds_toArray, List.set_cons_zero, List.set_cons_succ] at hM1);  have hM := hM1; clear hM1; simp only [Act.put, List.setIfInBounds_toArray, List.set_cons_zero, List.set_cons_succ]) | ((with_reducible refine wpl ?_); apply ld_one (hM := hM); rfl; (first | exact want_none rfl | exact want_some rfl rfl rfl rfl); rfl; (first | exact .head _ _ | exact .tail (.head _ _) | exact .tail (.tail (.head _ _))); (first | (focus (simp only [List.getElem?_toArray, List.getElem?_cons_zero, List.getElem?_cons_succ]; rfl)) | rfl); (first | exact one44 | exact one9); simp only [Act.put, List.setIfInBounds_toArray, List.set_cons_zero, List.set_cons_succ]) | ((with_reducible refine wpl ?_); apply st_cell (hM := hM); rfl; (first | exact want_none rfl | exact want_some rfl rfl rfl rfl); rfl; (first | (focus (go_simp; done)) | (focus (go_simp; rfl))); (first | exact .head _ _ | exact .tail (.head _ _) | exact .tail (.tail (.head _ _))); (first | (focus (simp; done)) | (focus (rw [tab_size]; omega))); rfl; (first | exact one44 | exact one9); intro w1 hM1; clear hM; (try simp only [List.setIfInBounds_toArray, List.set_cons_zero, List.set_cons_succ] at hM1);  have hM := hM1; clear hM1; simp only [Act.put, List.setIfInBounds_toArray, List.set_cons_zero, List.set_cons_succ]) | (go_at_call 32; (with_reducible refine (hgl _ _ _ hM).mono ?_); rintro e w3 ⟨rfl, hb⟩; replace hM := hM.step hb; clear hb) | (go_at_call 33; (with_reducible refine (hnm _ _ _ hM).mono ?_); rintro e w3 ⟨rfl, hb⟩; replace hM := hM.step hb; clear hb))
  go_ret2
  exact ⟨rfl, hM.below⟩

set_option maxHeartbeats 2000000 in
theorem number_nil (w : World) (a2 a3 ki : ByteArray) (m : Int) : Calls Tryd.prog 24 #[.agg #[.slice none 0 0, .slice none 0 0, .string a2, .string a3], .string ki, .int .i64 m] w fun e w' => e = .returned (.tuple #[.int .i64 m, .int .i64 0]) ∧ Below w.heap.size w w' := by
  have hM := Mem.start w
  go_enter Tryd.func24, Tryd.ntmps24
  go_wp2_with (first | ((with_reducible refine wpl ?_); apply al_box (hM := hM); rfl; (first | exact want_none rfl | exact want_some rfl rfl rfl rfl); (first | (focus (go_simp; done)) | (focus (go_simp; rfl))); intro gb w1 hM1; clear hM; dsimp only [Value.cells] at hM1; have hM := hM1; clear hM1; simp only [Act.put, List.setIfInBounds_toArray, List.set_cons_zero, List.set_cons_succ]) | ((with_reducible refine wpl ?_); apply ld_row (hM := hM); rfl; (first | exact want_none rfl | exact want_some rfl rfl rfl rfl); rfl; (first | exact .head _ _ | exact .tail (.head _ _) | exact .tail (.tail (.head _ _))); (first | exact row46); simp only [Act.put, List.setIfInBounds_toArray, List.set_cons_zero, List.set_cons_succ]) | ((with_reducible refine wpl ?_); apply st_row (hM := hM); rfl; (first | exact want_none rfl | exact want_some rfl rfl rfl rfl); rfl; (first | (focus (go_simp; done)) | (focus (go_simp; rfl))); (first | exact .head _ _ | exact .tail (.head _ _) | exact .tail (.tail (.head _ _))); rfl; rfl; (first | exact row46); intro w1 hM1; clear hM; (try simp only [List.setIfInBounds_toArray, List.set_cons_zero, List.set_cons_succ] at hM1);  have hM := hM1; clear hM1; simp only [Act.put, List.setIfInBounds_toArray, List.set_cons_zero, List.set_cons_succ]) | ((with_reducible refine wpl ?_); apply ld_one (hM := hM); rfl; (first | exact want_none rfl | exact want_some rfl rfl rfl rfl); rfl; (first | exact .head _ _ | exact .tail (.head _ _) | exact .tail (.tail (.head _ _))); (first | (focus (simp only [List.getElem?_toArray, List.getElem?_cons_zero, List.getElem?_cons_succ]; rfl)) | rfl); (first | exact one44 | exact one9); simp only [Act.put, List.setIfInBounds_toArray, List.set_cons_zero, List.set_cons_succ]) | ((with_reducible refine wpl ?_); apply st_cell (hM := hM); rfl; (first | exact want_none rfl | exact want_some rfl rfl rfl rfl); rfl; (first | (focus (go_simp; done)) | (focus (go_simp; rfl))); (first | exact .head _ _ | exact .tail (.head _ _) | exact .tail (.tail (.head _ _))); (first | (focus (simp; done)) | (focus (rw [tab_size]; omega))); rfl; (first | exact one44 | exact one9); intro w1 hM1; clear hM; (try simp only [List.setIfInBounds_toArray, List.set_cons_zero, List.set_cons_succ] at hM1);  have hM := hM1; clear hM1; simp only [Act.put, List.setIfInBounds_toArray, List.set_cons_zero, List.set_cons_succ]) | (go_at_call 32; (with_reducible refine (aget_nil _ a2 a3 ki).mono ?_); rintro e w3 ⟨rfl, hb⟩; replace hM := hM.step hb; clear hb))
  go_ret2
  exact ⟨rfl, hM.below⟩
end Go.Proofs.YtfpfdnckibaldaaDoor.B
