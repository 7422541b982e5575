/- Bytes are put behind a content: its last block is its own. Conditions: a content that may be. -/
import Derived.Test.YtiamkbmefllljaaExt5
set_option linter.unusedSimpArgs false
set_option linter.unusedVariables false
namespace Go.Proofs.Ytiamkbmefllljaa.E
open Go.RowKit Go.Proofs.Ytiamkbmefllljaa.M Go.Proofs.Ytiamkbmefllljaa.A Go.Proofs.Ytiamkbmefllljaa.L

section
variable {w0 : Base} {w : World} {p : Ptr} {s : St} {l : List Blk}

set_option maxRecDepth 100000 in
set_option maxHeartbeats 8000000 in
theorem eappend_B (hM : Mem w0 w (arena p s) l) (ok : Okay p s) (x bx : Value) (L : List Nat) (bs : List UInt8) (n : Nat) (hI : IdsAt w0 x L) (hB : BsAt w0 bx bs) (hc : Cn p s L n) (h0 : 0 < bs.length) (hmax : n + bs.length ≤ 1048576) (hq : n % 64 ≠ 0) (hown : s.H (L.getD (n / 64) 0) = 1) (hfit : mo s.H L n bs.length ≤ s.m) :
    Calls Try.prog 22 #[own p, .agg #[x, .int .i64 n], bx] w fun e w' => ∃ s' y L' B, e = .returned (.tuple #[.agg #[y, .int .i64 ((n + bs.length : Nat) : Int)], .int .i64 0]) ∧ Le w0 B ∧ IdsAt B y L' ∧ Mem B w' (arena p s') l ∧ App p s L n bs s' L' := by
  obtain ⟨xb, xc, rfl⟩ := (hI w _ _ hM).len
  obtain ⟨bb, bc, rfl⟩ := (hB w _ _ hM).len
  have hn : n ≤ 1048576 := hc.n_le
  have hL : Hid (L.length = nd n) := hid_ hc.len
  have hpre : Pre p s L n := hc.pre (.inr hown)
  have HOWN : n % 64 = 0 ∨ s.H (L.getD (n / 64) 0) = 1 := .inr hown
  have OK1 := ok
  have hs1 : nd (n + bs.length) ≤ L.length + s.m := by have := hL.out; unfold mo at hfit; rw [if_neg (fun h => h.2 hown)] at hfit; omega
  have HOWN := hid_ HOWN
  have d1 : decide ((bs.length : Int) > 1048576 - n) = false := decide_eq_false (by omega)
  have d2 : ((bs.length : Int) == 0) = false := beq_eq_false_iff_ne.2 (by omega)
  have dU : decide (((n : Int) % 64) > 0) = true := decide_eq_true (by omega)
  have e1 : ((n : Int) + bs.length + 64 - 1).tdiv 64 = (nd (n + bs.length) : Int) := by rw [Int.tdiv_eq_ediv_of_nonneg (by omega)]; unfold nd; omega
  have e2 : (nd (n + bs.length) : Int) ≤ 1048576 := by unfold nd; omega
  have e3 : 0 ≤ (nd (n + bs.length) : Int) := by omega
  have e4 : (L.length : Int) ≤ 1048576 := by have := hL.out; unfold nd at this; omega
  have d3 : decide ((nd (n + bs.length) : Int) - L.length > s.m) = false := decide_eq_false (by have := hL.out; have hnd : nd n ≤ nd (n + bs.length) := (by unfold nd; omega); unfold mo at hfit; split at hfit <;> omega)
  have hT : n / 64 < L.length := by have := hL.out; unfold nd at this; omega
  have hi2 : (L.length : Int) - 1 < L.length := by omega
  have hi3 : 0 ≤ (L.length : Int) - 1 := by omega
  have ht : ((L.length : Int) - 1).toNat = n / 64 := by have := hL.out; unfold nd at this; omega
  obtain ⟨a0, rfl, _⟩ := (hI w _ _ hM).cell hT
  have hlast : L[n / 64]? = some (L.getD (n / 64) 0) := by rw [getD_at hT, List.getElem?_eq_getElem hT]
  have hpos := hc.pos (getD_mem hT)
  have hidn : L.getD (n / 64) 0 < p.n := hpos.1
  generalize L.getD (n / 64) 0 = id at hlast hpos hown hidn
  have dH : (s.H id == 1) = true := beq_iff_eq.2 hown
  have hown' := hid_ hown
  clear hown
  have e4n : L.length ≤ 1048576 := by omega
  have hfit := hid_ hfit
  go_enter Try.func22, Try.ntmps22
  go_wp2_with (first
    | ((with_reducible refine wpl ?_); apply al_box (hM := hM); rfl; (first | exact want_none rfl | exact want_some rfl rfl rfl rfl); (first | (focus (go_simp; done)) | (focus (go_simp; rfl))); intro gb w1 hM1; clear hM; dsimp only [Value.cells] at hM1; have hM := hM1; clear hM1; simp only [Act.put, List.setIfInBounds_toArray, List.set_cons_zero, List.set_cons_succ])
    | ((with_reducible refine wpl ?_); apply al_zero (hM := hM); rfl; (first | exact want_none rfl | exact want_some rfl rfl rfl rfl); (first | exact zero41); intro gz w1 hM1; clear hM; dsimp only [Value.cells] at hM1; have hM := hM1; clear hM1; simp only [Act.put, List.setIfInBounds_toArray, List.set_cons_zero, List.set_cons_succ])
    | ((with_reducible refine wpl ?_); apply ld_row (hM := hM); rfl; (first | exact want_none rfl | exact want_some rfl rfl rfl rfl); rfl; (first | exact .head _ _ | exact .tail (.head _ _) | exact .tail (.tail (.head _ _)) | exact .tail (.tail (.tail (.head _ _))) | exact .tail (.tail (.tail (.tail (.head _ _)))) | exact .tail (.tail (.tail (.tail (.tail (.head _ _)))))); (first | exact row41); simp only [Act.put, List.setIfInBounds_toArray, List.set_cons_zero, List.set_cons_succ])
    | ((with_reducible refine wpl ?_); apply st_row (hM := hM); rfl; (first | exact want_none rfl | exact want_some rfl rfl rfl rfl); rfl; (first | (focus (go_simp; done)) | (focus (go_simp; rfl))); (first | exact .head _ _ | exact .tail (.head _ _) | exact .tail (.tail (.head _ _)) | exact .tail (.tail (.tail (.head _ _))) | exact .tail (.tail (.tail (.tail (.head _ _)))) | exact .tail (.tail (.tail (.tail (.tail (.head _ _)))))); rfl; rfl; (first | exact row41); intro w1 hM1; clear hM; (try simp only [List.setIfInBounds_toArray, List.set_cons_zero, List.set_cons_succ] at hM1); (try rw [tab_setInt] at hM1);  have hM := hM1; clear hM1; simp only [Act.put, List.setIfInBounds_toArray, List.set_cons_zero, List.set_cons_succ])
    | ((with_reducible refine wpl ?_); apply ld_one (hM := hM); rfl; (first | exact want_none rfl | exact want_some rfl rfl rfl rfl); rfl; (first | exact .head _ _ | exact .tail (.head _ _) | exact .tail (.tail (.head _ _)) | exact .tail (.tail (.tail (.head _ _))) | exact .tail (.tail (.tail (.tail (.head _ _)))) | exact .tail (.tail (.tail (.tail (.tail (.head _ _)))))); (first | (focus (simp only [List.getElem?_toArray, List.getElem?_cons_zero, List.getElem?_cons_succ]; rfl)) | exact tab_get (by omega) | rfl); (first | exact one3 | exact one39); simp only [Act.put, List.setIfInBounds_toArray, List.set_cons_zero, List.set_cons_succ])
    | ((with_reducible refine wpl ?_); apply st_cell (hM := hM); rfl; (first | exact want_none rfl | exact want_some rfl rfl rfl rfl); rfl; (first | (focus (go_simp; done)) | (focus (go_simp; rfl))); (first | exact .head _ _ | exact .tail (.head _ _) | exact .tail (.tail (.head _ _)) | exact .tail (.tail (.tail (.head _ _))) | exact .tail (.tail (.tail (.tail (.head _ _)))) | exact .tail (.tail (.tail (.tail (.tail (.head _ _)))))); (first | (focus (simp; done)) | (focus (rw [tab_size]; omega))); rfl; (first | exact one3 | exact one39); intro w1 hM1; clear hM; (try simp only [List.setIfInBounds_toArray, List.set_cons_zero, List.set_cons_succ] at hM1); (try rw [tab_setInt] at hM1);  have hM := hM1; clear hM1; simp only [Act.put, List.setIfInBounds_toArray, List.set_cons_zero, List.set_cons_succ])
    | (go_at_call 31; (with_reducible refine (right_ hM _ L.length _ n hn hL.out).mono ?_); rintro e w3 ⟨rfl, hM1⟩; clear hM; have hM := hM1; clear hM1)
    | (go_at_call 19; (with_reducible refine (free hM ok _ rfl).mono ?_); rintro e w3 ⟨rfl, hM1⟩; clear hM; have hM := hM1; clear hM1)
    | ((with_reducible refine wpl ?_); apply ld_ids (hM := hM) (hI := hI); rfl; (first | exact want_none rfl | exact want_some rfl rfl rfl rfl); rfl; exact hlast; exact one3; simp only [Act.put, List.setIfInBounds_toArray, List.set_cons_zero, List.set_cons_succ])
    | (go_at_call 21; (with_reducible refine (holds hM ok id hidn _ rfl).mono ?_); rintro e w3 ⟨rfl, hM1⟩; clear hM; have hM := hM1; clear hM1))
  refine reg_begin (fun w' => Mem w0 w' (arena p s) (⟨gb, #[.slice (some a0) L.length xc, .int .i64 n], 41, (0, 0)⟩ :: l)) (by kernel_rfl) hM (fun wd hMd => ?_)
  clear hM
  have hM := hMd
  clear hMd
  have hS := hM.tail
  refine reg_free 0 (v := .pointer (some ⟨gb, 0, none⟩)) rfl (by kernel_rfl) (by kernel_rfl) (by kernel_rfl) (fun _ _ _ h => h) (by (first | exact want_none rfl | exact want_some rfl rfl rfl rfl)) (fun w => by go_simp) hS ?_
  simp only [Act.put, List.setIfInBounds_toArray, List.set_cons_zero, List.set_cons_succ]
  refine reg_free 3 (v := .pointer (some ⟨gb, 1, none⟩)) rfl (by kernel_rfl) (by kernel_rfl) (by kernel_rfl) (fun _ _ _ h => h) (by (first | exact want_none rfl | exact want_some rfl rfl rfl rfl)) (fun w => by go_simp) hS ?_
  simp only [Act.put, List.setIfInBounds_toArray, List.set_cons_zero, List.set_cons_succ]
  refine reg_ld_one 1 (v := .slice (some a0) L.length xc) rfl (by kernel_rfl) (by kernel_rfl) (by kernel_rfl) (fun _ _ _ h => h) (by (first | exact want_none rfl | exact want_some rfl rfl rfl rfl)) rfl rfl (by (first | exact .head _ _ | exact .tail (.head _ _) | exact .tail (.tail (.head _ _)) | exact .tail (.tail (.tail (.head _ _))))) (by (first | (focus (simp only [List.getElem?_toArray, List.getElem?_cons_zero, List.getElem?_cons_succ]; rfl)) | exact tab_get (by omega) | rfl)) (by first | exact one3 | exact one39) hS ?_
  simp only [Act.put, List.setIfInBounds_toArray, List.set_cons_zero, List.set_cons_succ]
  refine reg_ld_one 4 (v := .int .i64 n) rfl (by kernel_rfl) (by kernel_rfl) (by kernel_rfl) (fun _ _ _ h => h) (by (first | exact want_none rfl | exact want_some rfl rfl rfl rfl)) rfl rfl (by (first | exact .head _ _ | exact .tail (.head _ _) | exact .tail (.tail (.head _ _)) | exact .tail (.tail (.tail (.head _ _))))) (by (first | (focus (simp only [List.getElem?_toArray, List.getElem?_cons_zero, List.getElem?_cons_succ]; rfl)) | exact tab_get (by omega) | rfl)) (by first | exact one3 | exact one39) hS ?_
  simp only [Act.put, List.setIfInBounds_toArray, List.set_cons_zero, List.set_cons_succ]
  refine reg_two 2 6 (by kernel_rfl) rfl rfl ?_ ?_
  · refine call_fn rfl (want_none rfl) cf32 (clone_room hM _ L hI e4n) (by simp only [List.map_toArray, List.map_cons, List.map_nil]; rfl) ?_
    rintro e w4 ⟨y, R, rfl, hM1, hR⟩
    clear hM
    have hM := hM1
    clear hM1
    refine ⟨y, rfl, ?_⟩
    obtain ⟨yb, yc, rfl⟩ := hR.slice
    clear hS
    have hS : Mem w0 w4 (arena p s) (⟨gb, #[.slice (some a0) L.length xc, .int .i64 n], 41, (0, 0)⟩ :: l) := app_tail hM
    refine ⟨hS, ?_⟩
    simp only [Act.put, List.setIfInBounds_toArray, List.set_cons_zero, List.set_cons_succ]
    refine reg_free 5 (v := .agg #[.slice yb L.length yc, .int .i64 n]) rfl (by kernel_rfl) (by kernel_rfl) (by kernel_rfl) (fun _ _ _ h => h) (by (first | exact want_none rfl | exact want_some rfl rfl rfl rfl)) (fun w => by go_simp) hS ?_
    simp only [Act.put, List.setIfInBounds_toArray, List.set_cons_zero, List.set_cons_succ]
    refine reg_step 6 (by kernel_rfl) rfl ?_
    apply al_zero (hM := hM); rfl; (first | exact want_none rfl | exact want_some rfl rfl rfl rfl); exact zero41
    intro go w5 hM1
    clear hM
    dsimp only [Value.cells] at hM1
    have hM := hM1
    clear hM1
    clear hS
    have hS : Mem w0 w5 (arena p s) (⟨gb, #[.slice (some a0) L.length xc, .int .i64 n], 41, (0, 0)⟩ :: l) := app_tail hM.tail
    refine ⟨hS, ?_⟩
    simp only [Act.put, List.setIfInBounds_toArray, List.set_cons_zero, List.set_cons_succ]
    refine reg_step 7 (by kernel_rfl) rfl ?_
    apply st_row (hM := hM); rfl; (first | exact want_none rfl | exact want_some rfl rfl rfl rfl); rfl; (first | (focus (go_simp; done)) | (focus (go_simp; rfl))); (first | exact .head _ _ | exact .tail (.head _ _) | exact .tail (.tail (.head _ _))); rfl; rfl; exact row41
    intro w6 hM1
    clear hM
    have hM := hM1
    clear hM1
    clear hS
    have hS : Mem w0 w6 (arena p s) (⟨gb, #[.slice (some a0) L.length xc, .int .i64 n], 41, (0, 0)⟩ :: l) := app_tail hM.tail
    refine ⟨hS, ?_⟩
    simp only [Act.put, List.setIfInBounds_toArray, List.set_cons_zero, List.set_cons_succ]
    refine reg_done (by kernel_rfl) ?_
    go_wp2_with (first | ((with_reducible refine wpl ?_); apply al_box (hM := hM); rfl; (first | exact want_none rfl | exact want_some rfl rfl rfl rfl); (first | (focus (go_simp; done)) | (focus (go_simp; rfl))); intro gb w1 hM1; clear hM; dsimp only [Value.cells] at hM1; have hM := hM1; clear hM1; simp only [Act.put, List.setIfInBounds_toArray, List.set_cons_zero, List.set_cons_succ]) | ((with_reducible refine wpl ?_); apply al_zero (hM := hM); rfl; (first | exact want_none rfl | exact want_some rfl rfl rfl rfl); (first | exact zero41); intro gz w1 hM1; clear hM; dsimp only [Value.cells] at hM1; have hM := hM1; clear hM1; simp only [Act.put, List.setIfInBounds_toArray, List.set_cons_zero, List.set_cons_succ]) | ((with_reducible refine wpl ?_); apply ld_row (hM := hM); rfl; (first | exact want_none rfl | exact want_some rfl rfl rfl rfl); rfl; (first | exact .head _ _ | exact .tail (.head _ _) | exact .tail (.tail (.head _ _)) | exact .tail (.tail (.tail (.head _ _))) | exact .tail (.tail (.tail (.tail (.head _ _)))) | exact .tail (.tail (.tail (.tail (.tail (.head _ _)))))); (first | exact row41); simp only [Act.put, List.setIfInBounds_toArray, List.set_cons_zero, List.set_cons_succ]) | ((with_reducible refine wpl ?_); apply st_row (hM := hM); rfl; (first | exact want_none rfl | exact want_some rfl rfl rfl rfl); rfl; (first | (focus (go_simp; done)) | (focus (go_simp; rfl))); (first | exact .head _ _ | exact .tail (.head _ _) | exact .tail (.tail (.head _ _)) | exact .tail (.tail (.tail (.head _ _))) | exact .tail (.tail (.tail (.tail (.head _ _)))) | exact .tail (.tail (.tail (.tail (.tail (.head _ _)))))); rfl; rfl; (first | exact row41); intro w1 hM1; clear hM; (try simp only [List.setIfInBounds_toArray, List.set_cons_zero, List.set_cons_succ] at hM1); (try rw [tab_setInt] at hM1);  have hM := hM1; clear hM1; simp only [Act.put, List.setIfInBounds_toArray, List.set_cons_zero, List.set_cons_succ]) | ((with_reducible refine wpl ?_); apply ld_one (hM := hM); rfl; (first | exact want_none rfl | exact want_some rfl rfl rfl rfl); rfl; (first | exact .head _ _ | exact .tail (.head _ _) | exact .tail (.tail (.head _ _)) | exact .tail (.tail (.tail (.head _ _))) | exact .tail (.tail (.tail (.tail (.head _ _)))) | exact .tail (.tail (.tail (.tail (.tail (.head _ _)))))); (first | (focus (simp only [List.getElem?_toArray, List.getElem?_cons_zero, List.getElem?_cons_succ]; rfl)) | exact tab_get (by omega) | rfl); (first | exact one3 | exact one39); simp only [Act.put, List.setIfInBounds_toArray, List.set_cons_zero, List.set_cons_succ]) | ((with_reducible refine wpl ?_); apply st_cell (hM := hM); rfl; (first | exact want_none rfl | exact want_some rfl rfl rfl rfl); rfl; (first | (focus (go_simp; done)) | (focus (go_simp; rfl))); (first | exact .head _ _ | exact .tail (.head _ _) | exact .tail (.tail (.head _ _)) | exact .tail (.tail (.tail (.head _ _))) | exact .tail (.tail (.tail (.tail (.head _ _)))) | exact .tail (.tail (.tail (.tail (.tail (.head _ _)))))); (first | (focus (simp; done)) | (focus (rw [tab_size]; omega))); rfl; (first | exact one3 | exact one39); intro w1 hM1; clear hM; (try simp only [List.setIfInBounds_toArray, List.set_cons_zero, List.set_cons_succ] at hM1); (try rw [tab_setInt] at hM1);  have hM := hM1; clear hM1; simp only [Act.put, List.setIfInBounds_toArray, List.set_cons_zero, List.set_cons_succ]))
    go_loopw [2] (fun xs wr => ∃ (d m c : Nat) (F : List Nat) (ss : St) (ids : Value) (R : List Blk) (xbb : Option Addr) (xbc : Nat), Gr p s L n bs ss F d ∧ Hid (d + m = bs.length) ∧ Hid (c = n + d) ∧ xs = .slice xbb m xbc ∧ Hid (BsAt w0 (.slice xbb m xbc) (bs.drop d)) ∧ Room ids (L ++ F) R ∧ Mem w0 wr (arena p ss) (⟨go, #[ids, .int .i64 (c : Nat)], 41, (0, 0)⟩ :: (R ++ (⟨gz, #[.slice none 0 0, .int .i64 0], 41, (0, 0)⟩ :: ⟨gb, #[.slice (some a0) L.length xc, .int .i64 n], 41, (0, 0)⟩ :: l)))) (fun xs _ => lenOf xs)
    case atStart => exact ⟨0, bs.length, n, [], s, _, _, bb, bc, Gr.start OK1 hpre bs, hid_ (by omega), hid_ rfl, rfl, hid_ hB, by rw [List.append_nil]; exact hR, hM⟩
    case round =>
      obtain ⟨d, m, c, F, ss, ids, R, xbb, xbc, gr, hdm, hcn, rfl, hbx, hR, hMr⟩ := hrel
      clear hM
      have hM := hMr
      clear hMr
      have hgok := gr.ok
      have hgm := gr.m
      have hglen := gr.len
      have hc1 : c ≤ 1048576 := by have := hcn.out; have := gr.d_le; omega
      by_cases hlt : d < bs.length
      · have e0 : 0 < m := by have := hdm.out; omega
        have hmb : m ≤ 1048576 := by have := hdm.out; omega
        by_cases hq : c % 64 = 0
        · have eq0 : ((c : Int) % 64 == 0) = true := beq_iff_eq.2 (by omega)
          have hq := hid_ hq
          have hm0 : 0 < ss.m := by
            have h1 := hcn.out
            have h2 := hq.out
            rw [List.length_append] at hglen
            have h3 : nd (n + d) + 1 ≤ nd (n + bs.length) := by unfold nd; omega
            omega
          have hglen := hid_ hglen
          have hgm := hid_ hgm
          go_wp2_with (first | ((with_reducible refine wpl ?_); apply al_box (hM := hM); rfl; (first | exact want_none rfl | exact want_some rfl rfl rfl rfl); (first | (focus (go_simp; done)) | (focus (go_simp; rfl))); intro gb w1 hM1; clear hM; dsimp only [Value.cells] at hM1; have hM := hM1; clear hM1; simp only [Act.put, List.setIfInBounds_toArray, List.set_cons_zero, List.set_cons_succ]) | ((with_reducible refine wpl ?_); apply al_zero (hM := hM); rfl; (first | exact want_none rfl | exact want_some rfl rfl rfl rfl); (first | exact zero41); intro gz w1 hM1; clear hM; dsimp only [Value.cells] at hM1; have hM := hM1; clear hM1; simp only [Act.put, List.setIfInBounds_toArray, List.set_cons_zero, List.set_cons_succ]) | ((with_reducible refine wpl ?_); apply ld_row (hM := hM); rfl; (first | exact want_none rfl | exact want_some rfl rfl rfl rfl); rfl; (first | exact .head _ _ | exact .tail (.head _ _) | exact .tail (.tail (.head _ _)) | exact .tail (.tail (.tail (.head _ _))) | exact .tail (.tail (.tail (.tail (.head _ _)))) | exact .tail (.tail (.tail (.tail (.tail (.head _ _)))))); (first | exact row41); simp only [Act.put, List.setIfInBounds_toArray, List.set_cons_zero, List.set_cons_succ]) | ((with_reducible refine wpl ?_); apply st_row (hM := hM); rfl; (first | exact want_none rfl | exact want_some rfl rfl rfl rfl); rfl; (first | (focus (go_simp; done)) | (focus (go_simp; rfl))); (first | exact .head _ _ | exact .tail (.head _ _) | exact .tail (.tail (.head _ _)) | exact .tail (.tail (.tail (.head _ _))) | exact .tail (.tail (.tail (.tail (.head _ _)))) | exact .tail (.tail (.tail (.tail (.tail (.head _ _)))))); rfl; rfl; (first | exact row41); intro w1 hM1; clear hM; (try simp only [List.setIfInBounds_toArray, List.set_cons_zero, List.set_cons_succ] at hM1); (try rw [tab_setInt] at hM1);  have hM := hM1; clear hM1; simp only [Act.put, List.setIfInBounds_toArray, List.set_cons_zero, List.set_cons_succ]) | ((with_reducible refine wpl ?_); apply ld_one (hM := hM); rfl; (first | exact want_none rfl | exact want_some rfl rfl rfl rfl); rfl; (first | exact .head _ _ | exact .tail (.head _ _) | exact .tail (.tail (.head _ _)) | exact .tail (.tail (.tail (.head _ _))) | exact .tail (.tail (.tail (.tail (.head _ _)))) | exact .tail (.tail (.tail (.tail (.tail (.head _ _)))))); (first | (focus (simp only [List.getElem?_toArray, List.getElem?_cons_zero, List.getElem?_cons_succ]; rfl)) | exact tab_get (by omega) | rfl); (first | exact one3 | exact one39); simp only [Act.put, List.setIfInBounds_toArray, List.set_cons_zero, List.set_cons_succ]) | ((with_reducible refine wpl ?_); apply st_cell (hM := hM); rfl; (first | exact want_none rfl | exact want_some rfl rfl rfl rfl); rfl; (first | (focus (go_simp; done)) | (focus (go_simp; rfl))); (first | exact .head _ _ | exact .tail (.head _ _) | exact .tail (.tail (.head _ _)) | exact .tail (.tail (.tail (.head _ _))) | exact .tail (.tail (.tail (.tail (.head _ _)))) | exact .tail (.tail (.tail (.tail (.tail (.head _ _)))))); (first | (focus (simp; done)) | (focus (rw [tab_size]; omega))); rfl; (first | exact one3 | exact one39); intro w1 hM1; clear hM; (try simp only [List.setIfInBounds_toArray, List.set_cons_zero, List.set_cons_succ] at hM1); (try rw [tab_setInt] at hM1);  have hM := hM1; clear hM1; simp only [Act.put, List.setIfInBounds_toArray, List.set_cons_zero, List.set_cons_succ]))
          refine (take hM hgok hm0).mono ?_
          rintro e w4 ⟨k, s2, rfl, hM1, ok2, hk, hk0, hD2, hH2, hm2⟩
          clear hM
          have hM := hM1
          clear hM1
          have hD2 := hid_ hD2
          have hH2 := hid_ hH2
          have hm2 := hid_ hm2
          have hk0 := hid_ hk0
          obtain ⟨Lc, hLc⟩ : ∃ Lc, Hid (L ++ F = Lc) := ⟨_, hid_ rfl⟩
          rw [hLc.out] at hR
          have hLb : Lc.length ≤ 1048576 := by have h1 := hglen.out; rw [hLc.out] at h1; have := hcn.out; unfold nd at h1; omega
          have okB := ok2
          have hidp : k < p.n ∧ 0 < s2.H k := ⟨hk, by rw [hH2.out, up1_self]; decide⟩
          go_wp2_with (first | ((with_reducible refine wpl ?_); apply al_box (hM := hM); rfl; (first | exact want_none rfl | exact want_some rfl rfl rfl rfl); (first | (focus (go_simp; done)) | (focus (go_simp; rfl))); intro gb w1 hM1; clear hM; dsimp only [Value.cells] at hM1; have hM := hM1; clear hM1; simp only [Act.put, List.setIfInBounds_toArray, List.set_cons_zero, List.set_cons_succ]) | ((with_reducible refine wpl ?_); apply al_zero (hM := hM); rfl; (first | exact want_none rfl | exact want_some rfl rfl rfl rfl); (first | exact zero41); intro gz w1 hM1; clear hM; dsimp only [Value.cells] at hM1; have hM := hM1; clear hM1; simp only [Act.put, List.setIfInBounds_toArray, List.set_cons_zero, List.set_cons_succ]) | ((with_reducible refine wpl ?_); apply ld_row (hM := hM); rfl; (first | exact want_none rfl | exact want_some rfl rfl rfl rfl); rfl; (first | exact .head _ _ | exact .tail (.head _ _) | exact .tail (.tail (.head _ _)) | exact .tail (.tail (.tail (.head _ _))) | exact .tail (.tail (.tail (.tail (.head _ _)))) | exact .tail (.tail (.tail (.tail (.tail (.head _ _)))))); (first | exact row41); simp only [Act.put, List.setIfInBounds_toArray, List.set_cons_zero, List.set_cons_succ]) | ((with_reducible refine wpl ?_); apply st_row (hM := hM); rfl; (first | exact want_none rfl | exact want_some rfl rfl rfl rfl); rfl; (first | (focus (go_simp; done)) | (focus (go_simp; rfl))); (first | exact .head _ _ | exact .tail (.head _ _) | exact .tail (.tail (.head _ _)) | exact .tail (.tail (.tail (.head _ _))) | exact .tail (.tail (.tail (.tail (.head _ _)))) | exact .tail (.tail (.tail (.tail (.tail (.head _ _)))))); rfl; rfl; (first | exact row41); intro w1 hM1; clear hM; (try simp only [List.setIfInBounds_toArray, List.set_cons_zero, List.set_cons_succ] at hM1); (try rw [tab_setInt] at hM1);  have hM := hM1; clear hM1; simp only [Act.put, List.setIfInBounds_toArray, List.set_cons_zero, List.set_cons_succ]) | ((with_reducible refine wpl ?_); apply ld_one (hM := hM); rfl; (first | exact want_none rfl | exact want_some rfl rfl rfl rfl); rfl; (first | exact .head _ _ | exact .tail (.head _ _) | exact .tail (.tail (.head _ _)) | exact .tail (.tail (.tail (.head _ _))) | exact .tail (.tail (.tail (.tail (.head _ _)))) | exact .tail (.tail (.tail (.tail (.tail (.head _ _)))))); (first | (focus (simp only [List.getElem?_toArray, List.getElem?_cons_zero, List.getElem?_cons_succ]; rfl)) | exact tab_get (by omega) | rfl); (first | exact one3 | exact one39); simp only [Act.put, List.setIfInBounds_toArray, List.set_cons_zero, List.set_cons_succ]) | ((with_reducible refine wpl ?_); apply st_cell (hM := hM); rfl; (first | exact want_none rfl | exact want_some rfl rfl rfl rfl); rfl; (first | (focus (go_simp; done)) | (focus (go_simp; rfl))); (first | exact .head _ _ | exact .tail (.head _ _) | exact .tail (.tail (.head _ _)) | exact .tail (.tail (.tail (.head _ _))) | exact .tail (.tail (.tail (.tail (.head _ _)))) | exact .tail (.tail (.tail (.tail (.tail (.head _ _)))))); (first | (focus (simp; done)) | (focus (rw [tab_size]; omega))); rfl; (first | exact one3 | exact one39); intro w1 hM1; clear hM; (try simp only [List.setIfInBounds_toArray, List.set_cons_zero, List.set_cons_succ] at hM1); (try rw [tab_setInt] at hM1);  have hM := hM1; clear hM1; simp only [Act.put, List.setIfInBounds_toArray, List.set_cons_zero, List.set_cons_succ]) | ((with_reducible refine wpl ?_); apply al_one (hM := hM) (ht := sl39); rfl; (first | exact want_none rfl | exact want_some rfl rfl rfl rfl); rfl; rfl; intro gq w1 hM1; clear hM; have hM := hM1; clear hM1; simp only [Act.put, List.setIfInBounds_toArray, List.set_cons_zero, List.set_cons_succ]) | ((with_reducible refine wpl ?_); apply ap_room (hM := hM) (hR := hR) (Lc := Lc) (k := k); rfl; (first | exact want_none rfl | exact want_some rfl rfl rfl rfl); rfl; rfl; exact hLb; intro g cc cs M w1 hMl hcs hl hrow hM1; clear hM; have hM := hM1; clear hM1; simp only [Act.put, List.setIfInBounds_toArray, List.set_cons_zero, List.set_cons_succ]))
          case inl =>
            have hMb : M ≤ 1048577 := by have := hMl.out; omega
            obtain ⟨T, hTc⟩ : ∃ T, Hid (T = Lc.length) := ⟨_, hid_ rfl⟩
            have hMT : Hid (M = T + 1) := hid_ (by have := hMl.out; have := hTc.out; omega)
            have hidT : Hid ((Lc ++ [k])[T]? = some k) := hid_ (by rw [hTc.out, List.getElem?_append_right (Nat.le_refl _)]; simp)
            have hS0 := hM.swap.none.swap
            refine reg_begin (fun w' => Mem w0 w' [] (⟨go, #[.slice (some ⟨g, 0, none⟩) M cc, .int .i64 (c : Nat)], 41, (0, 0)⟩ :: ⟨g, cs, 3, (0, 0)⟩ :: ⟨gz, #[.slice none 0 0, .int .i64 0], 41, (0, 0)⟩ :: ⟨gb, #[.slice (some a0) L.length xc, .int .i64 n], 41, (0, 0)⟩ :: l)) (by kernel_rfl) hM (fun wd hMd => ?_)
            clear hM hS0
            have hM := hMd
            clear hMd
            have hS := hM.swap.none.swap
            have ht : ((M : Int) - 1).toNat = T := by have := hMT.out; omega
            have hi2 : (M : Int) - 1 < M := by omega
            have hi3 : 0 ≤ (M : Int) - 1 := by have := hMT.out; omega
            have hi4 : 1 ≤ (M : Int) := by omega
            have hwr : IntKind.i64.wrap ((M : Int) - 1) = (M : Int) - 1 := IntWalk.i64_in _ (by omega)
            have hv : cs[T]? = some (.int .i64 (k : Nat)) := hrow.out T k hidT.out
            refine reg_free 0 (v := own p) rfl (by kernel_rfl) (by kernel_rfl) (by kernel_rfl) (fun _ _ _ h => h) (by (first | exact want_none rfl | exact want_some rfl rfl rfl rfl)) (fun w => by go_simp) hS ?_
            simp only [Act.put, List.setIfInBounds_toArray, List.set_cons_zero, List.set_cons_succ]
            refine reg_free 1 (v := .pointer (some ⟨go, 0, none⟩)) rfl (by kernel_rfl) (by kernel_rfl) (by kernel_rfl) (fun _ _ _ h => h) (by (first | exact want_none rfl | exact want_some rfl rfl rfl rfl)) (fun w => by go_simp) hS ?_
            simp only [Act.put, List.setIfInBounds_toArray, List.set_cons_zero, List.set_cons_succ]
            refine reg_ld_one 2 (v := .slice (some ⟨g, 0, none⟩) M cc) rfl (by kernel_rfl) (by kernel_rfl) (by kernel_rfl) (fun _ _ _ h => h) (by (first | exact want_none rfl | exact want_some rfl rfl rfl rfl)) rfl rfl (by (first | exact .head _ _ | exact .tail (.head _ _) | exact .tail (.tail (.head _ _)) | exact .tail (.tail (.tail (.head _ _))))) (by (first | (focus (simp only [List.getElem?_toArray, List.getElem?_cons_zero, List.getElem?_cons_succ]; rfl)) | exact tab_get (by omega) | rfl)) (by first | exact one3 | exact one39) hS ?_
            simp only [Act.put, List.setIfInBounds_toArray, List.set_cons_zero, List.set_cons_succ]
            refine reg_free 3 (v := .pointer (some ⟨go, 0, none⟩)) rfl (by kernel_rfl) (by kernel_rfl) (by kernel_rfl) (fun _ _ _ h => h) (by (first | exact want_none rfl | exact want_some rfl rfl rfl rfl)) (fun w => by go_simp) hS ?_
            simp only [Act.put, List.setIfInBounds_toArray, List.set_cons_zero, List.set_cons_succ]
            refine reg_ld_one 4 (v := .slice (some ⟨g, 0, none⟩) M cc) rfl (by kernel_rfl) (by kernel_rfl) (by kernel_rfl) (fun _ _ _ h => h) (by (first | exact want_none rfl | exact want_some rfl rfl rfl rfl)) rfl rfl (by (first | exact .head _ _ | exact .tail (.head _ _) | exact .tail (.tail (.head _ _)) | exact .tail (.tail (.tail (.head _ _))))) (by (first | (focus (simp only [List.getElem?_toArray, List.getElem?_cons_zero, List.getElem?_cons_succ]; rfl)) | exact tab_get (by omega) | rfl)) (by first | exact one3 | exact one39) hS ?_
            simp only [Act.put, List.setIfInBounds_toArray, List.set_cons_zero, List.set_cons_succ]
            refine reg_free 5 (v := .int .i64 (M : Nat)) rfl (by kernel_rfl) (by kernel_rfl) (by kernel_rfl) (fun _ _ _ h => h) (by (first | exact want_none rfl | exact want_some rfl rfl rfl rfl)) (fun w => by go_simp) hS ?_
            simp only [Act.put, List.setIfInBounds_toArray, List.set_cons_zero, List.set_cons_succ]
            refine reg_free 6 (v := .int .i64 ((M : Int) - 1)) rfl (by kernel_rfl) (by kernel_rfl) (by kernel_rfl) (fun _ _ _ h => h) (by (first | exact want_none rfl | exact want_some rfl rfl rfl rfl)) (fun w => by go_simp) hS ?_
            simp only [Act.put, List.setIfInBounds_toArray, List.set_cons_zero, List.set_cons_succ]
            refine reg_free 7 (v := .pointer (some ⟨g, T, none⟩)) rfl (by kernel_rfl) (by kernel_rfl) (by kernel_rfl) (fun _ _ _ h => h) (by (first | exact want_none rfl | exact want_some rfl rfl rfl rfl)) (fun w => by go_simp) hS ?_
            simp only [Act.put, List.setIfInBounds_toArray, List.set_cons_zero, List.set_cons_succ]
            refine reg_ld_one 8 (v := .int .i64 (k : Nat)) rfl (by kernel_rfl) (by kernel_rfl) (by kernel_rfl) (fun _ _ _ h => h) (by (first | exact want_none rfl | exact want_some rfl rfl rfl rfl)) rfl rfl (by (first | exact .head _ _ | exact .tail (.head _ _) | exact .tail (.tail (.head _ _)) | exact .tail (.tail (.tail (.head _ _))))) (by exact hv) (by first | exact one3 | exact one39) hS ?_
            simp only [Act.put, List.setIfInBounds_toArray, List.set_cons_zero, List.set_cons_succ]
            refine reg_free 9 (v := .int .i64 ((c : Int) % 64)) rfl (by kernel_rfl) (by kernel_rfl) (by kernel_rfl) (fun _ _ _ h => h) (by (first | exact want_none rfl | exact want_some rfl rfl rfl rfl)) (fun w => by go_simp) hS ?_
            simp only [Act.put, List.setIfInBounds_toArray, List.set_cons_zero, List.set_cons_succ]
            refine reg_free 10 (v := .slice xbb m xbc) rfl (by kernel_rfl) (by kernel_rfl) (by kernel_rfl) (fun _ _ _ h => h) (by (first | exact want_none rfl | exact want_some rfl rfl rfl rfl)) (fun w => by go_simp) hS ?_
            simp only [Act.put, List.setIfInBounds_toArray, List.set_cons_zero, List.set_cons_succ]
            refine reg_free 11 (v := .int .i64 (64 - (c : Int) % 64)) rfl (by kernel_rfl) (by kernel_rfl) (by kernel_rfl) (fun _ _ _ h => h) (by (first | exact want_none rfl | exact want_some rfl rfl rfl rfl)) (fun w => by go_simp) hS ?_
            simp only [Act.put, List.setIfInBounds_toArray, List.set_cons_zero, List.set_cons_succ]
            have hkc : ((64 - c % 64 : Nat) : Int) ≤ (xbc : Int) := by have := (hbx.out wd _ _ hM).cap_le; omega
            have hkz : (0 : Int) ≤ 64 - (c : Int) % 64 := by omega
            have hkl : 64 - (c : Int) % 64 ≤ (xbc : Int) := by omega
            refine reg_free 12 (v := .slice xbb (64 - c % 64) xbc) rfl (by kernel_rfl) (by kernel_rfl) (by kernel_rfl) (fun _ _ _ h => h) (by (first | exact want_none rfl | exact want_some rfl rfl rfl rfl)) (fun w => run_sl_h w (64 - c % 64) rfl und22 has5' rfl rfl (by omega) (by omega)) hS ?_
            simp only [Act.put, List.setIfInBounds_toArray, List.set_cons_zero, List.set_cons_succ]
            refine reg_step 13 (by kernel_rfl) rfl (call_fn rfl (want_none rfl) cf18 (write' hM okB k hidp.1 hidp.2 (c % 64) (vq := (c : Int) % 64) (by omega) (.slice xbb (64 - c % 64) xbc) ((bs.drop d).take (64 - c % 64)) (fun w' hM' => (hbx.out w' _ _ hM').upto (by omega)) (by omega) (by rw [part_len (by have := hdm.out; omega)]; omega)) (by simp only [List.map_toArray, List.map_cons, List.map_nil]; rfl) ?_)
            rintro e wq ⟨sq, rfl, hM1, okq, hDq, hHq, hmq⟩
            clear hM
            have hM := hM1
            clear hM1
            refine ⟨_, rfl, ?_⟩
            clear hS
            have hS := hM.swap.none.swap
            refine ⟨hS, ?_⟩
            simp only [Act.put, List.setIfInBounds_toArray, List.set_cons_zero, List.set_cons_succ]
            refine reg_done (by kernel_rfl) ?_
            clear hS ht hv hwr
            go_wp2_with (first | ((with_reducible refine wpl ?_); apply al_box (hM := hM); rfl; (first | exact want_none rfl | exact want_some rfl rfl rfl rfl); (first | (focus (go_simp; done)) | (focus (go_simp; rfl))); intro gb w1 hM1; clear hM; dsimp only [Value.cells] at hM1; have hM := hM1; clear hM1; simp only [Act.put, List.setIfInBounds_toArray, List.set_cons_zero, List.set_cons_succ]) | ((with_reducible refine wpl ?_); apply al_zero (hM := hM); rfl; (first | exact want_none rfl | exact want_some rfl rfl rfl rfl); (first | exact zero41); intro gz w1 hM1; clear hM; dsimp only [Value.cells] at hM1; have hM := hM1; clear hM1; simp only [Act.put, List.setIfInBounds_toArray, List.set_cons_zero, List.set_cons_succ]) | ((with_reducible refine wpl ?_); apply ld_row (hM := hM); rfl; (first | exact want_none rfl | exact want_some rfl rfl rfl rfl); rfl; (first | exact .head _ _ | exact .tail (.head _ _) | exact .tail (.tail (.head _ _)) | exact .tail (.tail (.tail (.head _ _))) | exact .tail (.tail (.tail (.tail (.head _ _)))) | exact .tail (.tail (.tail (.tail (.tail (.head _ _)))))); (first | exact row41); simp only [Act.put, List.setIfInBounds_toArray, List.set_cons_zero, List.set_cons_succ]) | ((with_reducible refine wpl ?_); apply st_row (hM := hM); rfl; (first | exact want_none rfl | exact want_some rfl rfl rfl rfl); rfl; (first | (focus (go_simp; done)) | (focus (go_simp; rfl))); (first | exact .head _ _ | exact .tail (.head _ _) | exact .tail (.tail (.head _ _)) | exact .tail (.tail (.tail (.head _ _))) | exact .tail (.tail (.tail (.tail (.head _ _)))) | exact .tail (.tail (.tail (.tail (.tail (.head _ _)))))); rfl; rfl; (first | exact row41); intro w1 hM1; clear hM; (try simp only [List.setIfInBounds_toArray, List.set_cons_zero, List.set_cons_succ] at hM1); (try rw [tab_setInt] at hM1);  have hM := hM1; clear hM1; simp only [Act.put, List.setIfInBounds_toArray, List.set_cons_zero, List.set_cons_succ]) | ((with_reducible refine wpl ?_); apply ld_one (hM := hM); rfl; (first | exact want_none rfl | exact want_some rfl rfl rfl rfl); rfl; (first | exact .head _ _ | exact .tail (.head _ _) | exact .tail (.tail (.head _ _)) | exact .tail (.tail (.tail (.head _ _))) | exact .tail (.tail (.tail (.tail (.head _ _)))) | exact .tail (.tail (.tail (.tail (.tail (.head _ _)))))); (first | (focus (simp only [List.getElem?_toArray, List.getElem?_cons_zero, List.getElem?_cons_succ]; rfl)) | exact tab_get (by omega) | rfl); (first | exact one3 | exact one39); simp only [Act.put, List.setIfInBounds_toArray, List.set_cons_zero, List.set_cons_succ]) | ((with_reducible refine wpl ?_); apply st_cell (hM := hM); rfl; (first | exact want_none rfl | exact want_some rfl rfl rfl rfl); rfl; (first | (focus (go_simp; done)) | (focus (go_simp; rfl))); (first | exact .head _ _ | exact .tail (.head _ _) | exact .tail (.tail (.head _ _)) | exact .tail (.tail (.tail (.head _ _))) | exact .tail (.tail (.tail (.tail (.head _ _)))) | exact .tail (.tail (.tail (.tail (.tail (.head _ _)))))); (first | (focus (simp; done)) | (focus (rw [tab_size]; omega))); rfl; (first | exact one3 | exact one39); intro w1 hM1; clear hM; (try simp only [List.setIfInBounds_toArray, List.set_cons_zero, List.set_cons_succ] at hM1); (try rw [tab_setInt] at hM1);  have hM := hM1; clear hM1; simp only [Act.put, List.setIfInBounds_toArray, List.set_cons_zero, List.set_cons_succ]) | ((with_reducible refine wpl ?_); apply sl_l (64 - c % 64); rfl; (first | exact want_none rfl | exact want_some rfl rfl rfl rfl); exact und22; exact size5; rfl; rfl; rfl; omega; omega; simp only [Act.put, List.setIfInBounds_toArray, List.set_cons_zero, List.set_cons_succ]))
            go_roundw
            case rel => 
              have hkm : 64 - c % 64 ≤ m := by omega
              refine ⟨d + (64 - c % 64), m - (64 - c % 64), c + (64 - c % 64), F ++ [k], sq, _, _, _, _, ?_, hid_ (by have := hdm.out; omega), hid_ (by have := hcn.out; omega), rfl, hid_ (fun w' fr' l' h' => ?_), .row g cc cs _ M (hid_ ?_) hcs hl (hid_ ?_), ?_⟩
              · have hce := hcn.out
                subst hce
                exact gr.next hpre okq hq.out hk0.out hk (by have := hq.out; omega) (by omega) (by have := hdm.out; omega) hD2.out hH2.out hm2.out (by rw [hDq, hq.out]) hHq hmq
              · rw [← List.drop_drop]
                have h9 := (hbx.out w' fr' l' h').from_ hkm
                simp only [cutAt, Nat.mul_one, Nat.sub_self] at h9
                exact h9
              · rw [← List.append_assoc, hLc.out, List.length_append, List.length_singleton]; exact hMl.out.symm
              · rw [← List.append_assoc, hLc.out]; exact hrow.out
              · have e : (((c + (64 - c % 64) : Nat)) : Int) = (c : Int) + (64 - (c : Int) % 64) := by omega
                rw [e]
                exact hM
            case measure => simp only [lenOf]; omega
          case inr =>
            have hMb : M ≤ 1048577 := by have := hMl.out; omega
            obtain ⟨T, hTc⟩ : ∃ T, Hid (T = Lc.length) := ⟨_, hid_ rfl⟩
            have hMT : Hid (M = T + 1) := hid_ (by have := hMl.out; have := hTc.out; omega)
            have hidT : Hid ((Lc ++ [k])[T]? = some k) := hid_ (by rw [hTc.out, List.getElem?_append_right (Nat.le_refl _)]; simp)
            have hS0 := hM.swap.none.swap
            refine reg_begin (fun w' => Mem w0 w' [] (⟨go, #[.slice (some ⟨g, 0, none⟩) M cc, .int .i64 (c : Nat)], 41, (0, 0)⟩ :: ⟨g, cs, 3, (0, 0)⟩ :: ⟨gz, #[.slice none 0 0, .int .i64 0], 41, (0, 0)⟩ :: ⟨gb, #[.slice (some a0) L.length xc, .int .i64 n], 41, (0, 0)⟩ :: l)) (by kernel_rfl) hM (fun wd hMd => ?_)
            clear hM hS0
            have hM := hMd
            clear hMd
            have hS := hM.swap.none.swap
            have ht : ((M : Int) - 1).toNat = T := by have := hMT.out; omega
            have hi2 : (M : Int) - 1 < M := by omega
            have hi3 : 0 ≤ (M : Int) - 1 := by have := hMT.out; omega
            have hi4 : 1 ≤ (M : Int) := by omega
            have hwr : IntKind.i64.wrap ((M : Int) - 1) = (M : Int) - 1 := IntWalk.i64_in _ (by omega)
            have hv : cs[T]? = some (.int .i64 (k : Nat)) := hrow.out T k hidT.out
            refine reg_free 0 (v := own p) rfl (by kernel_rfl) (by kernel_rfl) (by kernel_rfl) (fun _ _ _ h => h) (by (first | exact want_none rfl | exact want_some rfl rfl rfl rfl)) (fun w => by go_simp) hS ?_
            simp only [Act.put, List.setIfInBounds_toArray, List.set_cons_zero, List.set_cons_succ]
            refine reg_free 1 (v := .pointer (some ⟨go, 0, none⟩)) rfl (by kernel_rfl) (by kernel_rfl) (by kernel_rfl) (fun _ _ _ h => h) (by (first | exact want_none rfl | exact want_some rfl rfl rfl rfl)) (fun w => by go_simp) hS ?_
            simp only [Act.put, List.setIfInBounds_toArray, List.set_cons_zero, List.set_cons_succ]
            refine reg_ld_one 2 (v := .slice (some ⟨g, 0, none⟩) M cc) rfl (by kernel_rfl) (by kernel_rfl) (by kernel_rfl) (fun _ _ _ h => h) (by (first | exact want_none rfl | exact want_some rfl rfl rfl rfl)) rfl rfl (by (first | exact .head _ _ | exact .tail (.head _ _) | exact .tail (.tail (.head _ _)) | exact .tail (.tail (.tail (.head _ _))))) (by (first | (focus (simp only [List.getElem?_toArray, List.getElem?_cons_zero, List.getElem?_cons_succ]; rfl)) | exact tab_get (by omega) | rfl)) (by first | exact one3 | exact one39) hS ?_
            simp only [Act.put, List.setIfInBounds_toArray, List.set_cons_zero, List.set_cons_succ]
            refine reg_free 3 (v := .pointer (some ⟨go, 0, none⟩)) rfl (by kernel_rfl) (by kernel_rfl) (by kernel_rfl) (fun _ _ _ h => h) (by (first | exact want_none rfl | exact want_some rfl rfl rfl rfl)) (fun w => by go_simp) hS ?_
            simp only [Act.put, List.setIfInBounds_toArray, List.set_cons_zero, List.set_cons_succ]
            refine reg_ld_one 4 (v := .slice (some ⟨g, 0, none⟩) M cc) rfl (by kernel_rfl) (by kernel_rfl) (by kernel_rfl) (fun _ _ _ h => h) (by (first | exact want_none rfl | exact want_some rfl rfl rfl rfl)) rfl rfl (by (first | exact .head _ _ | exact .tail (.head _ _) | exact .tail (.tail (.head _ _)) | exact .tail (.tail (.tail (.head _ _))))) (by (first | (focus (simp only [List.getElem?_toArray, List.getElem?_cons_zero, List.getElem?_cons_succ]; rfl)) | exact tab_get (by omega) | rfl)) (by first | exact one3 | exact one39) hS ?_
            simp only [Act.put, List.setIfInBounds_toArray, List.set_cons_zero, List.set_cons_succ]
            refine reg_free 5 (v := .int .i64 (M : Nat)) rfl (by kernel_rfl) (by kernel_rfl) (by kernel_rfl) (fun _ _ _ h => h) (by (first | exact want_none rfl | exact want_some rfl rfl rfl rfl)) (fun w => by go_simp) hS ?_
            simp only [Act.put, List.setIfInBounds_toArray, List.set_cons_zero, List.set_cons_succ]
            refine reg_free 6 (v := .int .i64 ((M : Int) - 1)) rfl (by kernel_rfl) (by kernel_rfl) (by kernel_rfl) (fun _ _ _ h => h) (by (first | exact want_none rfl | exact want_some rfl rfl rfl rfl)) (fun w => by go_simp) hS ?_
            simp only [Act.put, List.setIfInBounds_toArray, List.set_cons_zero, List.set_cons_succ]
            refine reg_free 7 (v := .pointer (some ⟨g, T, none⟩)) rfl (by kernel_rfl) (by kernel_rfl) (by kernel_rfl) (fun _ _ _ h => h) (by (first | exact want_none rfl | exact want_some rfl rfl rfl rfl)) (fun w => by go_simp) hS ?_
            simp only [Act.put, List.setIfInBounds_toArray, List.set_cons_zero, List.set_cons_succ]
            refine reg_ld_one 8 (v := .int .i64 (k : Nat)) rfl (by kernel_rfl) (by kernel_rfl) (by kernel_rfl) (fun _ _ _ h => h) (by (first | exact want_none rfl | exact want_some rfl rfl rfl rfl)) rfl rfl (by (first | exact .head _ _ | exact .tail (.head _ _) | exact .tail (.tail (.head _ _)) | exact .tail (.tail (.tail (.head _ _))))) (by exact hv) (by first | exact one3 | exact one39) hS ?_
            simp only [Act.put, List.setIfInBounds_toArray, List.set_cons_zero, List.set_cons_succ]
            refine reg_free 9 (v := .int .i64 ((c : Int) % 64)) rfl (by kernel_rfl) (by kernel_rfl) (by kernel_rfl) (fun _ _ _ h => h) (by (first | exact want_none rfl | exact want_some rfl rfl rfl rfl)) (fun w => by go_simp) hS ?_
            simp only [Act.put, List.setIfInBounds_toArray, List.set_cons_zero, List.set_cons_succ]
            refine reg_free 10 (v := .slice xbb m xbc) rfl (by kernel_rfl) (by kernel_rfl) (by kernel_rfl) (fun _ _ _ h => h) (by (first | exact want_none rfl | exact want_some rfl rfl rfl rfl)) (fun w => by go_simp) hS ?_
            simp only [Act.put, List.setIfInBounds_toArray, List.set_cons_zero, List.set_cons_succ]
            refine reg_free 11 (v := .int .i64 ((m : Int))) rfl (by kernel_rfl) (by kernel_rfl) (by kernel_rfl) (fun _ _ _ h => h) (by (first | exact want_none rfl | exact want_some rfl rfl rfl rfl)) (fun w => by go_simp) hS ?_
            simp only [Act.put, List.setIfInBounds_toArray, List.set_cons_zero, List.set_cons_succ]
            have hkc : ((m : Nat) : Int) ≤ (xbc : Int) := by have := (hbx.out wd _ _ hM).cap_le; omega
            have hkz : (0 : Int) ≤ (m : Int) := by omega
            have hkl : (m : Int) ≤ (xbc : Int) := by omega
            refine reg_free 12 (v := .slice xbb (m) xbc) rfl (by kernel_rfl) (by kernel_rfl) (by kernel_rfl) (fun _ _ _ h => h) (by (first | exact want_none rfl | exact want_some rfl rfl rfl rfl)) (fun w => run_sl_h w (m) rfl und22 has5' rfl rfl (by omega) (by omega)) hS ?_
            simp only [Act.put, List.setIfInBounds_toArray, List.set_cons_zero, List.set_cons_succ]
            refine reg_step 13 (by kernel_rfl) rfl (call_fn rfl (want_none rfl) cf18 (write' hM okB k hidp.1 hidp.2 (c % 64) (vq := (c : Int) % 64) (by omega) (.slice xbb (m) xbc) ((bs.drop d).take (m)) (fun w' hM' => (hbx.out w' _ _ hM').upto (by omega)) (by omega) (by rw [part_len (by have := hdm.out; omega)]; omega)) (by simp only [List.map_toArray, List.map_cons, List.map_nil]; rfl) ?_)
            rintro e wq ⟨sq, rfl, hM1, okq, hDq, hHq, hmq⟩
            clear hM
            have hM := hM1
            clear hM1
            refine ⟨_, rfl, ?_⟩
            clear hS
            have hS := hM.swap.none.swap
            refine ⟨hS, ?_⟩
            simp only [Act.put, List.setIfInBounds_toArray, List.set_cons_zero, List.set_cons_succ]
            refine reg_done (by kernel_rfl) ?_
            clear hS ht hv hwr
            go_wp2_with (first | ((with_reducible refine wpl ?_); apply al_box (hM := hM); rfl; (first | exact want_none rfl | exact want_some rfl rfl rfl rfl); (first | (focus (go_simp; done)) | (focus (go_simp; rfl))); intro gb w1 hM1; clear hM; dsimp only [Value.cells] at hM1; have hM := hM1; clear hM1; simp only [Act.put, List.setIfInBounds_toArray, List.set_cons_zero, List.set_cons_succ]) | ((with_reducible refine wpl ?_); apply al_zero (hM := hM); rfl; (first | exact want_none rfl | exact want_some rfl rfl rfl rfl); (first | exact zero41); intro gz w1 hM1; clear hM; dsimp only [Value.cells] at hM1; have hM := hM1; clear hM1; simp only [Act.put, List.setIfInBounds_toArray, List.set_cons_zero, List.set_cons_succ]) | ((with_reducible refine wpl ?_); apply ld_row (hM := hM); rfl; (first | exact want_none rfl | exact want_some rfl rfl rfl rfl); rfl; (first | exact .head _ _ | exact .tail (.head _ _) | exact .tail (.tail (.head _ _)) | exact .tail (.tail (.tail (.head _ _))) | exact .tail (.tail (.tail (.tail (.head _ _)))) | exact .tail (.tail (.tail (.tail (.tail (.head _ _)))))); (first | exact row41); simp only [Act.put, List.setIfInBounds_toArray, List.set_cons_zero, List.set_cons_succ]) | ((with_reducible refine wpl ?_); apply st_row (hM := hM); rfl; (first | exact want_none rfl | exact want_some rfl rfl rfl rfl); rfl; (first | (focus (go_simp; done)) | (focus (go_simp; rfl))); (first | exact .head _ _ | exact .tail (.head _ _) | exact .tail (.tail (.head _ _)) | exact .tail (.tail (.tail (.head _ _))) | exact .tail (.tail (.tail (.tail (.head _ _)))) | exact .tail (.tail (.tail (.tail (.tail (.head _ _)))))); rfl; rfl; (first | exact row41); intro w1 hM1; clear hM; (try simp only [List.setIfInBounds_toArray, List.set_cons_zero, List.set_cons_succ] at hM1); (try rw [tab_setInt] at hM1);  have hM := hM1; clear hM1; simp only [Act.put, List.setIfInBounds_toArray, List.set_cons_zero, List.set_cons_succ]) | ((with_reducible refine wpl ?_); apply ld_one (hM := hM); rfl; (first | exact want_none rfl | exact want_some rfl rfl rfl rfl); rfl; (first | exact .head _ _ | exact .tail (.head _ _) | exact .tail (.tail (.head _ _)) | exact .tail (.tail (.tail (.head _ _))) | exact .tail (.tail (.tail (.tail (.head _ _)))) | exact .tail (.tail (.tail (.tail (.tail (.head _ _)))))); (first | (focus (simp only [List.getElem?_toArray, List.getElem?_cons_zero, List.getElem?_cons_succ]; rfl)) | exact tab_get (by omega) | rfl); (first | exact one3 | exact one39); simp only [Act.put, List.setIfInBounds_toArray, List.set_cons_zero, List.set_cons_succ]) | ((with_reducible refine wpl ?_); apply st_cell (hM := hM); rfl; (first | exact want_none rfl | exact want_some rfl rfl rfl rfl); rfl; (first | (focus (go_simp; done)) | (focus (go_simp; rfl))); (first | exact .head _ _ | exact .tail (.head _ _) | exact .tail (.tail (.head _ _)) | exact .tail (.tail (.tail (.head _ _))) | exact .tail (.tail (.tail (.tail (.head _ _)))) | exact .tail (.tail (.tail (.tail (.tail (.head _ _)))))); (first | (focus (simp; done)) | (focus (rw [tab_size]; omega))); rfl; (first | exact one3 | exact one39); intro w1 hM1; clear hM; (try simp only [List.setIfInBounds_toArray, List.set_cons_zero, List.set_cons_succ] at hM1); (try rw [tab_setInt] at hM1);  have hM := hM1; clear hM1; simp only [Act.put, List.setIfInBounds_toArray, List.set_cons_zero, List.set_cons_succ]) | ((with_reducible refine wpl ?_); apply sl_l (m); rfl; (first | exact want_none rfl | exact want_some rfl rfl rfl rfl); exact und22; exact size5; rfl; rfl; rfl; omega; omega; simp only [Act.put, List.setIfInBounds_toArray, List.set_cons_zero, List.set_cons_succ]))
            go_roundw
            case rel => 
              have hkm : m ≤ m := by omega
              refine ⟨d + (m), 0, c + (m), F ++ [k], sq, _, _, _, _, ?_, hid_ (by have := hdm.out; omega), hid_ (by have := hcn.out; omega), rfl, hid_ (fun w' fr' l' h' => ?_), .row g cc cs _ M (hid_ ?_) hcs hl (hid_ ?_), ?_⟩
              · have hce := hcn.out
                subst hce
                exact gr.next hpre okq hq.out hk0.out hk (by have := hq.out; omega) (by omega) (by have := hdm.out; omega) hD2.out hH2.out hm2.out (by rw [hDq, hq.out]) hHq hmq
              · rw [← List.drop_drop]
                have h9 := (hbx.out w' fr' l' h').from_ hkm
                simp only [cutAt, Nat.mul_one, Nat.sub_self] at h9
                exact h9
              · rw [← List.append_assoc, hLc.out, List.length_append, List.length_singleton]; exact hMl.out.symm
              · rw [← List.append_assoc, hLc.out]; exact hrow.out
              · have e : (((c + (m) : Nat)) : Int) = (c : Int) + ((m : Int)) := by omega
                rw [e]
                exact hM
            case measure => simp only [lenOf]; omega
        · have eq0 : ((c : Int) % 64 == 0) = false := beq_eq_false_iff_ne.2 (by omega)
          have hglen := hid_ hglen
          have hgm := hid_ hgm
          obtain ⟨Lc, hLc⟩ : ∃ Lc, Hid (L ++ F = Lc) := ⟨_, hid_ rfl⟩
          rw [hLc.out] at hR
          cases hR with
          | nil =>
            exfalso
            have h1 := hglen.out
            have h2 := hcn.out
            have h3 : 0 < nd (n + d) := by unfold nd; omega
            rw [hLc.out, List.length_nil] at h1
            omega
          | row g cc cs Lc M hM' hcs hl hrow =>
            obtain ⟨T, hTc⟩ : ∃ T, Hid (T = c / 64) := ⟨_, hid_ rfl⟩
            have hMT : Hid (M = T + 1) := hid_ (by
              have h1 := hglen.out
              have h2 := hcn.out
              have h3 := hM'.out
              have h4 := hTc.out
              rw [hLc.out, h3, ← h2] at h1
              unfold nd at h1
              omega)
            obtain ⟨id, hid'⟩ : ∃ id, Hid (id = Lc.getD T 0) := ⟨_, hid_ rfl⟩
            have hMb : M ≤ 1048577 := by have := hMT.out; have := hTc.out; omega
            have hTl : T < Lc.length := by have := hMT.out; have := hM'.out; omega
            have hidT : Hid (Lc[T]? = some id) := hid_ (by rw [hid'.out, getD_at hTl, List.getElem?_eq_getElem hTl])
            have hidp := gr.pos hpre id (by rw [hLc.out, hid'.out]; exact getD_mem hTl)
            have okB := hgok
            go_wp2_with (first | ((with_reducible refine wpl ?_); apply al_box (hM := hM); rfl; (first | exact want_none rfl | exact want_some rfl rfl rfl rfl); (first | (focus (go_simp; done)) | (focus (go_simp; rfl))); intro gb w1 hM1; clear hM; dsimp only [Value.cells] at hM1; have hM := hM1; clear hM1; simp only [Act.put, List.setIfInBounds_toArray, List.set_cons_zero, List.set_cons_succ]) | ((with_reducible refine wpl ?_); apply al_zero (hM := hM); rfl; (first | exact want_none rfl | exact want_some rfl rfl rfl rfl); (first | exact zero41); intro gz w1 hM1; clear hM; dsimp only [Value.cells] at hM1; have hM := hM1; clear hM1; simp only [Act.put, List.setIfInBounds_toArray, List.set_cons_zero, List.set_cons_succ]) | ((with_reducible refine wpl ?_); apply ld_row (hM := hM); rfl; (first | exact want_none rfl | exact want_some rfl rfl rfl rfl); rfl; (first | exact .head _ _ | exact .tail (.head _ _) | exact .tail (.tail (.head _ _)) | exact .tail (.tail (.tail (.head _ _))) | exact .tail (.tail (.tail (.tail (.head _ _)))) | exact .tail (.tail (.tail (.tail (.tail (.head _ _)))))); (first | exact row41); simp only [Act.put, List.setIfInBounds_toArray, List.set_cons_zero, List.set_cons_succ]) | ((with_reducible refine wpl ?_); apply st_row (hM := hM); rfl; (first | exact want_none rfl | exact want_some rfl rfl rfl rfl); rfl; (first | (focus (go_simp; done)) | (focus (go_simp; rfl))); (first | exact .head _ _ | exact .tail (.head _ _) | exact .tail (.tail (.head _ _)) | exact .tail (.tail (.tail (.head _ _))) | exact .tail (.tail (.tail (.tail (.head _ _)))) | exact .tail (.tail (.tail (.tail (.tail (.head _ _)))))); rfl; rfl; (first | exact row41); intro w1 hM1; clear hM; (try simp only [List.setIfInBounds_toArray, List.set_cons_zero, List.set_cons_succ] at hM1); (try rw [tab_setInt] at hM1);  have hM := hM1; clear hM1; simp only [Act.put, List.setIfInBounds_toArray, List.set_cons_zero, List.set_cons_succ]) | ((with_reducible refine wpl ?_); apply ld_one (hM := hM); rfl; (first | exact want_none rfl | exact want_some rfl rfl rfl rfl); rfl; (first | exact .head _ _ | exact .tail (.head _ _) | exact .tail (.tail (.head _ _)) | exact .tail (.tail (.tail (.head _ _))) | exact .tail (.tail (.tail (.tail (.head _ _)))) | exact .tail (.tail (.tail (.tail (.tail (.head _ _)))))); (first | (focus (simp only [List.getElem?_toArray, List.getElem?_cons_zero, List.getElem?_cons_succ]; rfl)) | exact tab_get (by omega) | rfl); (first | exact one3 | exact one39); simp only [Act.put, List.setIfInBounds_toArray, List.set_cons_zero, List.set_cons_succ]) | ((with_reducible refine wpl ?_); apply st_cell (hM := hM); rfl; (first | exact want_none rfl | exact want_some rfl rfl rfl rfl); rfl; (first | (focus (go_simp; done)) | (focus (go_simp; rfl))); (first | exact .head _ _ | exact .tail (.head _ _) | exact .tail (.tail (.head _ _)) | exact .tail (.tail (.tail (.head _ _))) | exact .tail (.tail (.tail (.tail (.head _ _)))) | exact .tail (.tail (.tail (.tail (.tail (.head _ _)))))); (first | (focus (simp; done)) | (focus (rw [tab_size]; omega))); rfl; (first | exact one3 | exact one39); intro w1 hM1; clear hM; (try simp only [List.setIfInBounds_toArray, List.set_cons_zero, List.set_cons_succ] at hM1); (try rw [tab_setInt] at hM1);  have hM := hM1; clear hM1; simp only [Act.put, List.setIfInBounds_toArray, List.set_cons_zero, List.set_cons_succ]))
            case inl =>
              have hS0 := hM.swap.none.swap
              refine reg_begin (fun w' => Mem w0 w' [] (⟨go, #[.slice (some ⟨g, 0, none⟩) M cc, .int .i64 (c : Nat)], 41, (0, 0)⟩ :: ⟨g, cs, 3, (0, 0)⟩ :: ⟨gz, #[.slice none 0 0, .int .i64 0], 41, (0, 0)⟩ :: ⟨gb, #[.slice (some a0) L.length xc, .int .i64 n], 41, (0, 0)⟩ :: l)) (by kernel_rfl) hM (fun wd hMd => ?_)
              clear hM hS0
              have hM := hMd
              clear hMd
              have hS := hM.swap.none.swap
              have ht : ((M : Int) - 1).toNat = T := by have := hMT.out; omega
              have hi2 : (M : Int) - 1 < M := by omega
              have hi3 : 0 ≤ (M : Int) - 1 := by have := hMT.out; omega
              have hi4 : 1 ≤ (M : Int) := by omega
              have hwr : IntKind.i64.wrap ((M : Int) - 1) = (M : Int) - 1 := IntWalk.i64_in _ (by omega)
              have hv : cs[T]? = some (.int .i64 (id : Nat)) := hrow.out T id hidT.out
              refine reg_free 0 (v := own p) rfl (by kernel_rfl) (by kernel_rfl) (by kernel_rfl) (fun _ _ _ h => h) (by (first | exact want_none rfl | exact want_some rfl rfl rfl rfl)) (fun w => by go_simp) hS ?_
              simp only [Act.put, List.setIfInBounds_toArray, List.set_cons_zero, List.set_cons_succ]
              refine reg_free 1 (v := .pointer (some ⟨go, 0, none⟩)) rfl (by kernel_rfl) (by kernel_rfl) (by kernel_rfl) (fun _ _ _ h => h) (by (first | exact want_none rfl | exact want_some rfl rfl rfl rfl)) (fun w => by go_simp) hS ?_
              simp only [Act.put, List.setIfInBounds_toArray, List.set_cons_zero, List.set_cons_succ]
              refine reg_ld_one 2 (v := .slice (some ⟨g, 0, none⟩) M cc) rfl (by kernel_rfl) (by kernel_rfl) (by kernel_rfl) (fun _ _ _ h => h) (by (first | exact want_none rfl | exact want_some rfl rfl rfl rfl)) rfl rfl (by (first | exact .head _ _ | exact .tail (.head _ _) | exact .tail (.tail (.head _ _)) | exact .tail (.tail (.tail (.head _ _))))) (by (first | (focus (simp only [List.getElem?_toArray, List.getElem?_cons_zero, List.getElem?_cons_succ]; rfl)) | exact tab_get (by omega) | rfl)) (by first | exact one3 | exact one39) hS ?_
              simp only [Act.put, List.setIfInBounds_toArray, List.set_cons_zero, List.set_cons_succ]
              refine reg_free 3 (v := .pointer (some ⟨go, 0, none⟩)) rfl (by kernel_rfl) (by kernel_rfl) (by kernel_rfl) (fun _ _ _ h => h) (by (first | exact want_none rfl | exact want_some rfl rfl rfl rfl)) (fun w => by go_simp) hS ?_
              simp only [Act.put, List.setIfInBounds_toArray, List.set_cons_zero, List.set_cons_succ]
              refine reg_ld_one 4 (v := .slice (some ⟨g, 0, none⟩) M cc) rfl (by kernel_rfl) (by kernel_rfl) (by kernel_rfl) (fun _ _ _ h => h) (by (first | exact want_none rfl | exact want_some rfl rfl rfl rfl)) rfl rfl (by (first | exact .head _ _ | exact .tail (.head _ _) | exact .tail (.tail (.head _ _)) | exact .tail (.tail (.tail (.head _ _))))) (by (first | (focus (simp only [List.getElem?_toArray, List.getElem?_cons_zero, List.getElem?_cons_succ]; rfl)) | exact tab_get (by omega) | rfl)) (by first | exact one3 | exact one39) hS ?_
              simp only [Act.put, List.setIfInBounds_toArray, List.set_cons_zero, List.set_cons_succ]
              refine reg_free 5 (v := .int .i64 (M : Nat)) rfl (by kernel_rfl) (by kernel_rfl) (by kernel_rfl) (fun _ _ _ h => h) (by (first | exact want_none rfl | exact want_some rfl rfl rfl rfl)) (fun w => by go_simp) hS ?_
              simp only [Act.put, List.setIfInBounds_toArray, List.set_cons_zero, List.set_cons_succ]
              refine reg_free 6 (v := .int .i64 ((M : Int) - 1)) rfl (by kernel_rfl) (by kernel_rfl) (by kernel_rfl) (fun _ _ _ h => h) (by (first | exact want_none rfl | exact want_some rfl rfl rfl rfl)) (fun w => by go_simp) hS ?_
              simp only [Act.put, List.setIfInBounds_toArray, List.set_cons_zero, List.set_cons_succ]
              refine reg_free 7 (v := .pointer (some ⟨g, T, none⟩)) rfl (by kernel_rfl) (by kernel_rfl) (by kernel_rfl) (fun _ _ _ h => h) (by (first | exact want_none rfl | exact want_some rfl rfl rfl rfl)) (fun w => by go_simp) hS ?_
              simp only [Act.put, List.setIfInBounds_toArray, List.set_cons_zero, List.set_cons_succ]
              refine reg_ld_one 8 (v := .int .i64 (id : Nat)) rfl (by kernel_rfl) (by kernel_rfl) (by kernel_rfl) (fun _ _ _ h => h) (by (first | exact want_none rfl | exact want_some rfl rfl rfl rfl)) rfl rfl (by (first | exact .head _ _ | exact .tail (.head _ _) | exact .tail (.tail (.head _ _)) | exact .tail (.tail (.tail (.head _ _))))) (by exact hv) (by first | exact one3 | exact one39) hS ?_
              simp only [Act.put, List.setIfInBounds_toArray, List.set_cons_zero, List.set_cons_succ]
              refine reg_free 9 (v := .int .i64 ((c : Int) % 64)) rfl (by kernel_rfl) (by kernel_rfl) (by kernel_rfl) (fun _ _ _ h => h) (by (first | exact want_none rfl | exact want_some rfl rfl rfl rfl)) (fun w => by go_simp) hS ?_
              simp only [Act.put, List.setIfInBounds_toArray, List.set_cons_zero, List.set_cons_succ]
              refine reg_free 10 (v := .slice xbb m xbc) rfl (by kernel_rfl) (by kernel_rfl) (by kernel_rfl) (fun _ _ _ h => h) (by (first | exact want_none rfl | exact want_some rfl rfl rfl rfl)) (fun w => by go_simp) hS ?_
              simp only [Act.put, List.setIfInBounds_toArray, List.set_cons_zero, List.set_cons_succ]
              refine reg_free 11 (v := .int .i64 (64 - (c : Int) % 64)) rfl (by kernel_rfl) (by kernel_rfl) (by kernel_rfl) (fun _ _ _ h => h) (by (first | exact want_none rfl | exact want_some rfl rfl rfl rfl)) (fun w => by go_simp) hS ?_
              simp only [Act.put, List.setIfInBounds_toArray, List.set_cons_zero, List.set_cons_succ]
              have hkc : ((64 - c % 64 : Nat) : Int) ≤ (xbc : Int) := by have := (hbx.out wd _ _ hM).cap_le; omega
              have hkz : (0 : Int) ≤ 64 - (c : Int) % 64 := by omega
              have hkl : 64 - (c : Int) % 64 ≤ (xbc : Int) := by omega
              refine reg_free 12 (v := .slice xbb (64 - c % 64) xbc) rfl (by kernel_rfl) (by kernel_rfl) (by kernel_rfl) (fun _ _ _ h => h) (by (first | exact want_none rfl | exact want_some rfl rfl rfl rfl)) (fun w => run_sl_h w (64 - c % 64) rfl und22 has5' rfl rfl (by omega) (by omega)) hS ?_
              simp only [Act.put, List.setIfInBounds_toArray, List.set_cons_zero, List.set_cons_succ]
              refine reg_step 13 (by kernel_rfl) rfl (call_fn rfl (want_none rfl) cf18 (write' hM okB id hidp.1 hidp.2 (c % 64) (vq := (c : Int) % 64) (by omega) (.slice xbb (64 - c % 64) xbc) ((bs.drop d).take (64 - c % 64)) (fun w' hM' => (hbx.out w' _ _ hM').upto (by omega)) (by omega) (by rw [part_len (by have := hdm.out; omega)]; omega)) (by simp only [List.map_toArray, List.map_cons, List.map_nil]; rfl) ?_)
              rintro e wq ⟨sq, rfl, hM1, okq, hDq, hHq, hmq⟩
              clear hM
              have hM := hM1
              clear hM1
              refine ⟨_, rfl, ?_⟩
              clear hS
              have hS := hM.swap.none.swap
              refine ⟨hS, ?_⟩
              simp only [Act.put, List.setIfInBounds_toArray, List.set_cons_zero, List.set_cons_succ]
              refine reg_done (by kernel_rfl) ?_
              clear hS ht hv hwr
              go_wp2_with (first | ((with_reducible refine wpl ?_); apply al_box (hM := hM); rfl; (first | exact want_none rfl | exact want_some rfl rfl rfl rfl); (first | (focus (go_simp; done)) | (focus (go_simp; rfl))); intro gb w1 hM1; clear hM; dsimp only [Value.cells] at hM1; have hM := hM1; clear hM1; simp only [Act.put, List.setIfInBounds_toArray, List.set_cons_zero, List.set_cons_succ]) | ((with_reducible refine wpl ?_); apply al_zero (hM := hM); rfl; (first | exact want_none rfl | exact want_some rfl rfl rfl rfl); (first | exact zero41); intro gz w1 hM1; clear hM; dsimp only [Value.cells] at hM1; have hM := hM1; clear hM1; simp only [Act.put, List.setIfInBounds_toArray, List.set_cons_zero, List.set_cons_succ]) | ((with_reducible refine wpl ?_); apply ld_row (hM := hM); rfl; (first | exact want_none rfl | exact want_some rfl rfl rfl rfl); rfl; (first | exact .head _ _ | exact .tail (.head _ _) | exact .tail (.tail (.head _ _)) | exact .tail (.tail (.tail (.head _ _))) | exact .tail (.tail (.tail (.tail (.head _ _)))) | exact .tail (.tail (.tail (.tail (.tail (.head _ _)))))); (first | exact row41); simp only [Act.put, List.setIfInBounds_toArray, List.set_cons_zero, List.set_cons_succ]) | ((with_reducible refine wpl ?_); apply st_row (hM := hM); rfl; (first | exact want_none rfl | exact want_some rfl rfl rfl rfl); rfl; (first | (focus (go_simp; done)) | (focus (go_simp; rfl))); (first | exact .head _ _ | exact .tail (.head _ _) | exact .tail (.tail (.head _ _)) | exact .tail (.tail (.tail (.head _ _))) | exact .tail (.tail (.tail (.tail (.head _ _)))) | exact .tail (.tail (.tail (.tail (.tail (.head _ _)))))); rfl; rfl; (first | exact row41); intro w1 hM1; clear hM; (try simp only [List.setIfInBounds_toArray, List.set_cons_zero, List.set_cons_succ] at hM1); (try rw [tab_setInt] at hM1);  have hM := hM1; clear hM1; simp only [Act.put, List.setIfInBounds_toArray, List.set_cons_zero, List.set_cons_succ]) | ((with_reducible refine wpl ?_); apply ld_one (hM := hM); rfl; (first | exact want_none rfl | exact want_some rfl rfl rfl rfl); rfl; (first | exact .head _ _ | exact .tail (.head _ _) | exact .tail (.tail (.head _ _)) | exact .tail (.tail (.tail (.head _ _))) | exact .tail (.tail (.tail (.tail (.head _ _)))) | exact .tail (.tail (.tail (.tail (.tail (.head _ _)))))); (first | (focus (simp only [List.getElem?_toArray, List.getElem?_cons_zero, List.getElem?_cons_succ]; rfl)) | exact tab_get (by omega) | rfl); (first | exact one3 | exact one39); simp only [Act.put, List.setIfInBounds_toArray, List.set_cons_zero, List.set_cons_succ]) | ((with_reducible refine wpl ?_); apply st_cell (hM := hM); rfl; (first | exact want_none rfl | exact want_some rfl rfl rfl rfl); rfl; (first | (focus (go_simp; done)) | (focus (go_simp; rfl))); (first | exact .head _ _ | exact .tail (.head _ _) | exact .tail (.tail (.head _ _)) | exact .tail (.tail (.tail (.head _ _))) | exact .tail (.tail (.tail (.tail (.head _ _)))) | exact .tail (.tail (.tail (.tail (.tail (.head _ _)))))); (first | (focus (simp; done)) | (focus (rw [tab_size]; omega))); rfl; (first | exact one3 | exact one39); intro w1 hM1; clear hM; (try simp only [List.setIfInBounds_toArray, List.set_cons_zero, List.set_cons_succ] at hM1); (try rw [tab_setInt] at hM1);  have hM := hM1; clear hM1; simp only [Act.put, List.setIfInBounds_toArray, List.set_cons_zero, List.set_cons_succ]) | ((with_reducible refine wpl ?_); apply sl_l (64 - c % 64); rfl; (first | exact want_none rfl | exact want_some rfl rfl rfl rfl); exact und22; exact size5; rfl; rfl; rfl; omega; omega; simp only [Act.put, List.setIfInBounds_toArray, List.set_cons_zero, List.set_cons_succ]))
              go_roundw
              case rel => 
                have hkm : 64 - c % 64 ≤ m := by omega
                refine ⟨d + (64 - c % 64), m - (64 - c % 64), c + (64 - c % 64), F, sq, _, _, _, _, ?_, hid_ (by have := hdm.out; omega), hid_ (by have := hcn.out; omega), rfl, hid_ (fun w' fr' l' h' => ?_), .row g cc cs _ M (hid_ ?_) hcs hl (hid_ ?_), ?_⟩
                · have hce := hcn.out
                  subst hce
                  exact gr.near okq hq (by omega) (by have := hdm.out; omega) (by rw [hDq, hid'.out, ← hLc.out, hTc.out]) hHq hmq
                · rw [← List.drop_drop]
                  have h9 := (hbx.out w' fr' l' h').from_ hkm
                  simp only [cutAt, Nat.mul_one, Nat.sub_self] at h9
                  exact h9
                · rw [hLc.out]; exact hM'.out
                · rw [hLc.out]; exact hrow.out
                · have e : (((c + (64 - c % 64) : Nat)) : Int) = (c : Int) + (64 - (c : Int) % 64) := by omega
                  rw [e]
                  exact hM
              case measure => simp only [lenOf]; omega
            case inr =>
              have hS0 := hM.swap.none.swap
              refine reg_begin (fun w' => Mem w0 w' [] (⟨go, #[.slice (some ⟨g, 0, none⟩) M cc, .int .i64 (c : Nat)], 41, (0, 0)⟩ :: ⟨g, cs, 3, (0, 0)⟩ :: ⟨gz, #[.slice none 0 0, .int .i64 0], 41, (0, 0)⟩ :: ⟨gb, #[.slice (some a0) L.length xc, .int .i64 n], 41, (0, 0)⟩ :: l)) (by kernel_rfl) hM (fun wd hMd => ?_)
              clear hM hS0
              have hM := hMd
              clear hMd
              have hS := hM.swap.none.swap
              have ht : ((M : Int) - 1).toNat = T := by have := hMT.out; omega
              have hi2 : (M : Int) - 1 < M := by omega
              have hi3 : 0 ≤ (M : Int) - 1 := by have := hMT.out; omega
              have hi4 : 1 ≤ (M : Int) := by omega
              have hwr : IntKind.i64.wrap ((M : Int) - 1) = (M : Int) - 1 := IntWalk.i64_in _ (by omega)
              have hv : cs[T]? = some (.int .i64 (id : Nat)) := hrow.out T id hidT.out
              refine reg_free 0 (v := own p) rfl (by kernel_rfl) (by kernel_rfl) (by kernel_rfl) (fun _ _ _ h => h) (by (first | exact want_none rfl | exact want_some rfl rfl rfl rfl)) (fun w => by go_simp) hS ?_
              simp only [Act.put, List.setIfInBounds_toArray, List.set_cons_zero, List.set_cons_succ]
              refine reg_free 1 (v := .pointer (some ⟨go, 0, none⟩)) rfl (by kernel_rfl) (by kernel_rfl) (by kernel_rfl) (fun _ _ _ h => h) (by (first | exact want_none rfl | exact want_some rfl rfl rfl rfl)) (fun w => by go_simp) hS ?_
              simp only [Act.put, List.setIfInBounds_toArray, List.set_cons_zero, List.set_cons_succ]
              refine reg_ld_one 2 (v := .slice (some ⟨g, 0, none⟩) M cc) rfl (by kernel_rfl) (by kernel_rfl) (by kernel_rfl) (fun _ _ _ h => h) (by (first | exact want_none rfl | exact want_some rfl rfl rfl rfl)) rfl rfl (by (first | exact .head _ _ | exact .tail (.head _ _) | exact .tail (.tail (.head _ _)) | exact .tail (.tail (.tail (.head _ _))))) (by (first | (focus (simp only [List.getElem?_toArray, List.getElem?_cons_zero, List.getElem?_cons_succ]; rfl)) | exact tab_get (by omega) | rfl)) (by first | exact one3 | exact one39) hS ?_
              simp only [Act.put, List.setIfInBounds_toArray, List.set_cons_zero, List.set_cons_succ]
              refine reg_free 3 (v := .pointer (some ⟨go, 0, none⟩)) rfl (by kernel_rfl) (by kernel_rfl) (by kernel_rfl) (fun _ _ _ h => h) (by (first | exact want_none rfl | exact want_some rfl rfl rfl rfl)) (fun w => by go_simp) hS ?_
              simp only [Act.put, List.setIfInBounds_toArray, List.set_cons_zero, List.set_cons_succ]
              refine reg_ld_one 4 (v := .slice (some ⟨g, 0, none⟩) M cc) rfl (by kernel_rfl) (by kernel_rfl) (by kernel_rfl) (fun _ _ _ h => h) (by (first | exact want_none rfl | exact want_some rfl rfl rfl rfl)) rfl rfl (by (first | exact .head _ _ | exact .tail (.head _ _) | exact .tail (.tail (.head _ _)) | exact .tail (.tail (.tail (.head _ _))))) (by (first | (focus (simp only [List.getElem?_toArray, List.getElem?_cons_zero, List.getElem?_cons_succ]; rfl)) | exact tab_get (by omega) | rfl)) (by first | exact one3 | exact one39) hS ?_
              simp only [Act.put, List.setIfInBounds_toArray, List.set_cons_zero, List.set_cons_succ]
              refine reg_free 5 (v := .int .i64 (M : Nat)) rfl (by kernel_rfl) (by kernel_rfl) (by kernel_rfl) (fun _ _ _ h => h) (by (first | exact want_none rfl | exact want_some rfl rfl rfl rfl)) (fun w => by go_simp) hS ?_
              simp only [Act.put, List.setIfInBounds_toArray, List.set_cons_zero, List.set_cons_succ]
              refine reg_free 6 (v := .int .i64 ((M : Int) - 1)) rfl (by kernel_rfl) (by kernel_rfl) (by kernel_rfl) (fun _ _ _ h => h) (by (first | exact want_none rfl | exact want_some rfl rfl rfl rfl)) (fun w => by go_simp) hS ?_
              simp only [Act.put, List.setIfInBounds_toArray, List.set_cons_zero, List.set_cons_succ]
              refine reg_free 7 (v := .pointer (some ⟨g, T, none⟩)) rfl (by kernel_rfl) (by kernel_rfl) (by kernel_rfl) (fun _ _ _ h => h) (by (first | exact want_none rfl | exact want_some rfl rfl rfl rfl)) (fun w => by go_simp) hS ?_
              simp only [Act.put, List.setIfInBounds_toArray, List.set_cons_zero, List.set_cons_succ]
              refine reg_ld_one 8 (v := .int .i64 (id : Nat)) rfl (by kernel_rfl) (by kernel_rfl) (by kernel_rfl) (fun _ _ _ h => h) (by (first | exact want_none rfl | exact want_some rfl rfl rfl rfl)) rfl rfl (by (first | exact .head _ _ | exact .tail (.head _ _) | exact .tail (.tail (.head _ _)) | exact .tail (.tail (.tail (.head _ _))))) (by exact hv) (by first | exact one3 | exact one39) hS ?_
              simp only [Act.put, List.setIfInBounds_toArray, List.set_cons_zero, List.set_cons_succ]
              refine reg_free 9 (v := .int .i64 ((c : Int) % 64)) rfl (by kernel_rfl) (by kernel_rfl) (by kernel_rfl) (fun _ _ _ h => h) (by (first | exact want_none rfl | exact want_some rfl rfl rfl rfl)) (fun w => by go_simp) hS ?_
              simp only [Act.put, List.setIfInBounds_toArray, List.set_cons_zero, List.set_cons_succ]
              refine reg_free 10 (v := .slice xbb m xbc) rfl (by kernel_rfl) (by kernel_rfl) (by kernel_rfl) (fun _ _ _ h => h) (by (first | exact want_none rfl | exact want_some rfl rfl rfl rfl)) (fun w => by go_simp) hS ?_
              simp only [Act.put, List.setIfInBounds_toArray, List.set_cons_zero, List.set_cons_succ]
              refine reg_free 11 (v := .int .i64 ((m : Int))) rfl (by kernel_rfl) (by kernel_rfl) (by kernel_rfl) (fun _ _ _ h => h) (by (first | exact want_none rfl | exact want_some rfl rfl rfl rfl)) (fun w => by go_simp) hS ?_
              simp only [Act.put, List.setIfInBounds_toArray, List.set_cons_zero, List.set_cons_succ]
              have hkc : ((m : Nat) : Int) ≤ (xbc : Int) := by have := (hbx.out wd _ _ hM).cap_le; omega
              have hkz : (0 : Int) ≤ (m : Int) := by omega
              have hkl : (m : Int) ≤ (xbc : Int) := by omega
              refine reg_free 12 (v := .slice xbb (m) xbc) rfl (by kernel_rfl) (by kernel_rfl) (by kernel_rfl) (fun _ _ _ h => h) (by (first | exact want_none rfl | exact want_some rfl rfl rfl rfl)) (fun w => run_sl_h w (m) rfl und22 has5' rfl rfl (by omega) (by omega)) hS ?_
              simp only [Act.put, List.setIfInBounds_toArray, List.set_cons_zero, List.set_cons_succ]
              refine reg_step 13 (by kernel_rfl) rfl (call_fn rfl (want_none rfl) cf18 (write' hM okB id hidp.1 hidp.2 (c % 64) (vq := (c : Int) % 64) (by omega) (.slice xbb (m) xbc) ((bs.drop d).take (m)) (fun w' hM' => (hbx.out w' _ _ hM').upto (by omega)) (by omega) (by rw [part_len (by have := hdm.out; omega)]; omega)) (by simp only [List.map_toArray, List.map_cons, List.map_nil]; rfl) ?_)
              rintro e wq ⟨sq, rfl, hM1, okq, hDq, hHq, hmq⟩
              clear hM
              have hM := hM1
              clear hM1
              refine ⟨_, rfl, ?_⟩
              clear hS
              have hS := hM.swap.none.swap
              refine ⟨hS, ?_⟩
              simp only [Act.put, List.setIfInBounds_toArray, List.set_cons_zero, List.set_cons_succ]
              refine reg_done (by kernel_rfl) ?_
              clear hS ht hv hwr
              go_wp2_with (first | ((with_reducible refine wpl ?_); apply al_box (hM := hM); rfl; (first | exact want_none rfl | exact want_some rfl rfl rfl rfl); (first | (focus (go_simp; done)) | (focus (go_simp; rfl))); intro gb w1 hM1; clear hM; dsimp only [Value.cells] at hM1; have hM := hM1; clear hM1; simp only [Act.put, List.setIfInBounds_toArray, List.set_cons_zero, List.set_cons_succ]) | ((with_reducible refine wpl ?_); apply al_zero (hM := hM); rfl; (first | exact want_none rfl | exact want_some rfl rfl rfl rfl); (first | exact zero41); intro gz w1 hM1; clear hM; dsimp only [Value.cells] at hM1; have hM := hM1; clear hM1; simp only [Act.put, List.setIfInBounds_toArray, List.set_cons_zero, List.set_cons_succ]) | ((with_reducible refine wpl ?_); apply ld_row (hM := hM); rfl; (first | exact want_none rfl | exact want_some rfl rfl rfl rfl); rfl; (first | exact .head _ _ | exact .tail (.head _ _) | exact .tail (.tail (.head _ _)) | exact .tail (.tail (.tail (.head _ _))) | exact .tail (.tail (.tail (.tail (.head _ _)))) | exact .tail (.tail (.tail (.tail (.tail (.head _ _)))))); (first | exact row41); simp only [Act.put, List.setIfInBounds_toArray, List.set_cons_zero, List.set_cons_succ]) | ((with_reducible refine wpl ?_); apply st_row (hM := hM); rfl; (first | exact want_none rfl | exact want_some rfl rfl rfl rfl); rfl; (first | (focus (go_simp; done)) | (focus (go_simp; rfl))); (first | exact .head _ _ | exact .tail (.head _ _) | exact .tail (.tail (.head _ _)) | exact .tail (.tail (.tail (.head _ _))) | exact .tail (.tail (.tail (.tail (.head _ _)))) | exact .tail (.tail (.tail (.tail (.tail (.head _ _)))))); rfl; rfl; (first | exact row41); intro w1 hM1; clear hM; (try simp only [List.setIfInBounds_toArray, List.set_cons_zero, List.set_cons_succ] at hM1); (try rw [tab_setInt] at hM1);  have hM := hM1; clear hM1; simp only [Act.put, List.setIfInBounds_toArray, List.set_cons_zero, List.set_cons_succ]) | ((with_reducible refine wpl ?_); apply ld_one (hM := hM); rfl; (first | exact want_none rfl | exact want_some rfl rfl rfl rfl); rfl; (first | exact .head _ _ | exact .tail (.head _ _) | exact .tail (.tail (.head _ _)) | exact .tail (.tail (.tail (.head _ _))) | exact .tail (.tail (.tail (.tail (.head _ _)))) | exact .tail (.tail (.tail (.tail (.tail (.head _ _)))))); (first | (focus (simp only [List.getElem?_toArray, List.getElem?_cons_zero, List.getElem?_cons_succ]; rfl)) | exact tab_get (by omega) | rfl); (first | exact one3 | exact one39); simp only [Act.put, List.setIfInBounds_toArray, List.set_cons_zero, List.set_cons_succ]) | ((with_reducible refine wpl ?_); apply st_cell (hM := hM); rfl; (first | exact want_none rfl | exact want_some rfl rfl rfl rfl); rfl; (first | (focus (go_simp; done)) | (focus (go_simp; rfl))); (first | exact .head _ _ | exact .tail (.head _ _) | exact .tail (.tail (.head _ _)) | exact .tail (.tail (.tail (.head _ _))) | exact .tail (.tail (.tail (.tail (.head _ _)))) | exact .tail (.tail (.tail (.tail (.tail (.head _ _)))))); (first | (focus (simp; done)) | (focus (rw [tab_size]; omega))); rfl; (first | exact one3 | exact one39); intro w1 hM1; clear hM; (try simp only [List.setIfInBounds_toArray, List.set_cons_zero, List.set_cons_succ] at hM1); (try rw [tab_setInt] at hM1);  have hM := hM1; clear hM1; simp only [Act.put, List.setIfInBounds_toArray, List.set_cons_zero, List.set_cons_succ]) | ((with_reducible refine wpl ?_); apply sl_l (m); rfl; (first | exact want_none rfl | exact want_some rfl rfl rfl rfl); exact und22; exact size5; rfl; rfl; rfl; omega; omega; simp only [Act.put, List.setIfInBounds_toArray, List.set_cons_zero, List.set_cons_succ]))
              go_roundw
              case rel => 
                have hkm : m ≤ m := by omega
                refine ⟨d + (m), 0, c + (m), F, sq, _, _, _, _, ?_, hid_ (by have := hdm.out; omega), hid_ (by have := hcn.out; omega), rfl, hid_ (fun w' fr' l' h' => ?_), .row g cc cs _ M (hid_ ?_) hcs hl (hid_ ?_), ?_⟩
                · have hce := hcn.out
                  subst hce
                  exact gr.near okq hq (by omega) (by have := hdm.out; omega) (by rw [hDq, hid'.out, ← hLc.out, hTc.out]) hHq hmq
                · rw [← List.drop_drop]
                  have h9 := (hbx.out w' fr' l' h').from_ hkm
                  simp only [cutAt, Nat.mul_one, Nat.sub_self] at h9
                  exact h9
                · rw [hLc.out]; exact hM'.out
                · rw [hLc.out]; exact hrow.out
                · have e : (((c + (m) : Nat)) : Int) = (c : Int) + ((m : Int)) := by omega
                  rw [e]
                  exact hM
              case measure => simp only [lenOf]; omega
      · have hdl := gr.d_le
        obtain rfl : d = bs.length := by omega
        obtain rfl : m = 0 := by have := hdm.out; omega
        obtain ⟨Lc, hLc⟩ : ∃ Lc, Hid (L ++ F = Lc) := ⟨_, hid_ rfl⟩
        rw [hLc.out] at hR
        have hglen := hid_ hglen
        have hgm := hid_ hgm
        cases hR with
        | nil =>
          exfalso
          have h1 := hglen.out
          have h3 : 0 < nd (n + bs.length) := by unfold nd; omega
          rw [hLc.out, List.length_nil] at h1
          omega
        | row g cc cs Lc M hM' hcs hl hrow =>
          go_wp2_with (first | ((with_reducible refine wpl ?_); apply al_box (hM := hM); rfl; (first | exact want_none rfl | exact want_some rfl rfl rfl rfl); (first | (focus (go_simp; done)) | (focus (go_simp; rfl))); intro gb w1 hM1; clear hM; dsimp only [Value.cells] at hM1; have hM := hM1; clear hM1; simp only [Act.put, List.setIfInBounds_toArray, List.set_cons_zero, List.set_cons_succ]) | ((with_reducible refine wpl ?_); apply al_zero (hM := hM); rfl; (first | exact want_none rfl | exact want_some rfl rfl rfl rfl); (first | exact zero41); intro gz w1 hM1; clear hM; dsimp only [Value.cells] at hM1; have hM := hM1; clear hM1; simp only [Act.put, List.setIfInBounds_toArray, List.set_cons_zero, List.set_cons_succ]) | ((with_reducible refine wpl ?_); apply ld_row (hM := hM); rfl; (first | exact want_none rfl | exact want_some rfl rfl rfl rfl); rfl; (first | exact .head _ _ | exact .tail (.head _ _) | exact .tail (.tail (.head _ _)) | exact .tail (.tail (.tail (.head _ _))) | exact .tail (.tail (.tail (.tail (.head _ _)))) | exact .tail (.tail (.tail (.tail (.tail (.head _ _)))))); (first | exact row41); simp only [Act.put, List.setIfInBounds_toArray, List.set_cons_zero, List.set_cons_succ]) | ((with_reducible refine wpl ?_); apply st_row (hM := hM); rfl; (first | exact want_none rfl | exact want_some rfl rfl rfl rfl); rfl; (first | (focus (go_simp; done)) | (focus (go_simp; rfl))); (first | exact .head _ _ | exact .tail (.head _ _) | exact .tail (.tail (.head _ _)) | exact .tail (.tail (.tail (.head _ _))) | exact .tail (.tail (.tail (.tail (.head _ _)))) | exact .tail (.tail (.tail (.tail (.tail (.head _ _)))))); rfl; rfl; (first | exact row41); intro w1 hM1; clear hM; (try simp only [List.setIfInBounds_toArray, List.set_cons_zero, List.set_cons_succ] at hM1); (try rw [tab_setInt] at hM1);  have hM := hM1; clear hM1; simp only [Act.put, List.setIfInBounds_toArray, List.set_cons_zero, List.set_cons_succ]) | ((with_reducible refine wpl ?_); apply ld_one (hM := hM); rfl; (first | exact want_none rfl | exact want_some rfl rfl rfl rfl); rfl; (first | exact .head _ _ | exact .tail (.head _ _) | exact .tail (.tail (.head _ _)) | exact .tail (.tail (.tail (.head _ _))) | exact .tail (.tail (.tail (.tail (.head _ _)))) | exact .tail (.tail (.tail (.tail (.tail (.head _ _)))))); (first | (focus (simp only [List.getElem?_toArray, List.getElem?_cons_zero, List.getElem?_cons_succ]; rfl)) | exact tab_get (by omega) | rfl); (first | exact one3 | exact one39); simp only [Act.put, List.setIfInBounds_toArray, List.set_cons_zero, List.set_cons_succ]) | ((with_reducible refine wpl ?_); apply st_cell (hM := hM); rfl; (first | exact want_none rfl | exact want_some rfl rfl rfl rfl); rfl; (first | (focus (go_simp; done)) | (focus (go_simp; rfl))); (first | exact .head _ _ | exact .tail (.head _ _) | exact .tail (.tail (.head _ _)) | exact .tail (.tail (.tail (.head _ _))) | exact .tail (.tail (.tail (.tail (.head _ _)))) | exact .tail (.tail (.tail (.tail (.tail (.head _ _)))))); (first | (focus (simp; done)) | (focus (rw [tab_size]; omega))); rfl; (first | exact one3 | exact one39); intro w1 hM1; clear hM; (try simp only [List.setIfInBounds_toArray, List.set_cons_zero, List.set_cons_succ] at hM1); (try rw [tab_setInt] at hM1);  have hM := hM1; clear hM1; simp only [Act.put, List.setIfInBounds_toArray, List.set_cons_zero, List.set_cons_succ]))
          obtain ⟨B, hB1, hM1, hI1⟩ := parked (hM.sub (.cons (.tail (.tail (.head _ _))) (.same _))) hM'.out hl hrow.out
          have hce := hcn.out
          subst hce
          have hap := App.own hc HOWN.out gr
          rw [hLc.out] at hap
          exact bodyPost_ret (results_row rfl hM rfl (.head _ _) row41 rfl) rfl ⟨ss, _, Lc, B, rfl, hB1, hI1, hM1.tail.tail.tail, hap⟩

  · apply al_zero (hM := hM); rfl; (first | exact want_none rfl | exact want_some rfl rfl rfl rfl); exact zero41
    intro go w5 hM1
    clear hM
    dsimp only [Value.cells] at hM1
    have hM := hM1
    clear hM1
    clear hS
    have hS : Mem w0 w5 (arena p s) (⟨gb, #[.slice (some a0) L.length xc, .int .i64 n], 41, (0, 0)⟩ :: l) := hM.tail.tail
    refine ⟨hS, ?_⟩
    simp only [Act.put, List.setIfInBounds_toArray, List.set_cons_zero, List.set_cons_succ]
    refine reg_step 2 (by kernel_rfl) rfl ?_
    refine call_fn rfl (want_none rfl) cf32 (clone_room hM _ L hI e4n) (by simp only [List.map_toArray, List.map_cons, List.map_nil]; rfl) ?_
    rintro e w4 ⟨y, R, rfl, hM1, hR⟩
    clear hM
    have hM := hM1
    clear hM1
    refine ⟨y, rfl, ?_⟩
    obtain ⟨yb, yc, rfl⟩ := hR.slice
    clear hS
    have hS : Mem w0 w4 (arena p s) (⟨gb, #[.slice (some a0) L.length xc, .int .i64 n], 41, (0, 0)⟩ :: l) := app_tail2 hM
    refine ⟨hS, ?_⟩
    simp only [Act.put, List.setIfInBounds_toArray, List.set_cons_zero, List.set_cons_succ]
    refine reg_free 5 (v := .agg #[.slice yb L.length yc, .int .i64 n]) rfl (by kernel_rfl) (by kernel_rfl) (by kernel_rfl) (fun _ _ _ h => h) (by (first | exact want_none rfl | exact want_some rfl rfl rfl rfl)) (fun w => by go_simp) hS ?_
    simp only [Act.put, List.setIfInBounds_toArray, List.set_cons_zero, List.set_cons_succ]
    have hM1 := hM.reperm (app_front R)
    clear hM
    have hM := hM1
    clear hM1
    refine reg_step 7 (by kernel_rfl) rfl ?_
    apply st_row (hM := hM); rfl; (first | exact want_none rfl | exact want_some rfl rfl rfl rfl); rfl; (first | (focus (go_simp; done)) | (focus (go_simp; rfl))); (first | exact .head _ _ | exact .tail (.head _ _) | exact .tail (.tail (.head _ _))); rfl; rfl; exact row41
    intro w6 hM1
    clear hM
    have hM := hM1
    clear hM1
    clear hS
    have hS : Mem w0 w6 (arena p s) (⟨gb, #[.slice (some a0) L.length xc, .int .i64 n], 41, (0, 0)⟩ :: l) := app_tail hM.tail
    refine ⟨hS, ?_⟩
    simp only [Act.put, List.setIfInBounds_toArray, List.set_cons_zero, List.set_cons_succ]
    refine reg_done (by kernel_rfl) ?_
    go_wp2_with (first | ((with_reducible refine wpl ?_); apply al_box (hM := hM); rfl; (first | exact want_none rfl | exact want_some rfl rfl rfl rfl); (first | (focus (go_simp; done)) | (focus (go_simp; rfl))); intro gb w1 hM1; clear hM; dsimp only [Value.cells] at hM1; have hM := hM1; clear hM1; simp only [Act.put, List.setIfInBounds_toArray, List.set_cons_zero, List.set_cons_succ]) | ((with_reducible refine wpl ?_); apply al_zero (hM := hM); rfl; (first | exact want_none rfl | exact want_some rfl rfl rfl rfl); (first | exact zero41); intro gz w1 hM1; clear hM; dsimp only [Value.cells] at hM1; have hM := hM1; clear hM1; simp only [Act.put, List.setIfInBounds_toArray, List.set_cons_zero, List.set_cons_succ]) | ((with_reducible refine wpl ?_); apply ld_row (hM := hM); rfl; (first | exact want_none rfl | exact want_some rfl rfl rfl rfl); rfl; (first | exact .head _ _ | exact .tail (.head _ _) | exact .tail (.tail (.head _ _)) | exact .tail (.tail (.tail (.head _ _))) | exact .tail (.tail (.tail (.tail (.head _ _)))) | exact .tail (.tail (.tail (.tail (.tail (.head _ _)))))); (first | exact row41); simp only [Act.put, List.setIfInBounds_toArray, List.set_cons_zero, List.set_cons_succ]) | ((with_reducible refine wpl ?_); apply st_row (hM := hM); rfl; (first | exact want_none rfl | exact want_some rfl rfl rfl rfl); rfl; (first | (focus (go_simp; done)) | (focus (go_simp; rfl))); (first | exact .head _ _ | exact .tail (.head _ _) | exact .tail (.tail (.head _ _)) | exact .tail (.tail (.tail (.head _ _))) | exact .tail (.tail (.tail (.tail (.head _ _)))) | exact .tail (.tail (.tail (.tail (.tail (.head _ _)))))); rfl; rfl; (first | exact row41); intro w1 hM1; clear hM; (try simp only [List.setIfInBounds_toArray, List.set_cons_zero, List.set_cons_succ] at hM1); (try rw [tab_setInt] at hM1);  have hM := hM1; clear hM1; simp only [Act.put, List.setIfInBounds_toArray, List.set_cons_zero, List.set_cons_succ]) | ((with_reducible refine wpl ?_); apply ld_one (hM := hM); rfl; (first | exact want_none rfl | exact want_some rfl rfl rfl rfl); rfl; (first | exact .head _ _ | exact .tail (.head _ _) | exact .tail (.tail (.head _ _)) | exact .tail (.tail (.tail (.head _ _))) | exact .tail (.tail (.tail (.tail (.head _ _)))) | exact .tail (.tail (.tail (.tail (.tail (.head _ _)))))); (first | (focus (simp only [List.getElem?_toArray, List.getElem?_cons_zero, List.getElem?_cons_succ]; rfl)) | exact tab_get (by omega) | rfl); (first | exact one3 | exact one39); simp only [Act.put, List.setIfInBounds_toArray, List.set_cons_zero, List.set_cons_succ]) | ((with_reducible refine wpl ?_); apply st_cell (hM := hM); rfl; (first | exact want_none rfl | exact want_some rfl rfl rfl rfl); rfl; (first | (focus (go_simp; done)) | (focus (go_simp; rfl))); (first | exact .head _ _ | exact .tail (.head _ _) | exact .tail (.tail (.head _ _)) | exact .tail (.tail (.tail (.head _ _))) | exact .tail (.tail (.tail (.tail (.head _ _)))) | exact .tail (.tail (.tail (.tail (.tail (.head _ _)))))); (first | (focus (simp; done)) | (focus (rw [tab_size]; omega))); rfl; (first | exact one3 | exact one39); intro w1 hM1; clear hM; (try simp only [List.setIfInBounds_toArray, List.set_cons_zero, List.set_cons_succ] at hM1); (try rw [tab_setInt] at hM1);  have hM := hM1; clear hM1; simp only [Act.put, List.setIfInBounds_toArray, List.set_cons_zero, List.set_cons_succ]))
    go_loopw [2] (fun xs wr => ∃ (d m c : Nat) (F : List Nat) (ss : St) (ids : Value) (R : List Blk) (xbb : Option Addr) (xbc : Nat), Gr p s L n bs ss F d ∧ Hid (d + m = bs.length) ∧ Hid (c = n + d) ∧ xs = .slice xbb m xbc ∧ Hid (BsAt w0 (.slice xbb m xbc) (bs.drop d)) ∧ Room ids (L ++ F) R ∧ Mem w0 wr (arena p ss) (⟨go, #[ids, .int .i64 (c : Nat)], 41, (0, 0)⟩ :: (R ++ (⟨gz, #[.slice none 0 0, .int .i64 0], 41, (0, 0)⟩ :: ⟨gb, #[.slice (some a0) L.length xc, .int .i64 n], 41, (0, 0)⟩ :: l)))) (fun xs _ => lenOf xs)
    case atStart => exact ⟨0, bs.length, n, [], s, _, _, bb, bc, Gr.start OK1 hpre bs, hid_ (by omega), hid_ rfl, rfl, hid_ hB, by rw [List.append_nil]; exact hR, hM⟩
    case round =>
      obtain ⟨d, m, c, F, ss, ids, R, xbb, xbc, gr, hdm, hcn, rfl, hbx, hR, hMr⟩ := hrel
      clear hM
      have hM := hMr
      clear hMr
      have hgok := gr.ok
      have hgm := gr.m
      have hglen := gr.len
      have hc1 : c ≤ 1048576 := by have := hcn.out; have := gr.d_le; omega
      by_cases hlt : d < bs.length
      · have e0 : 0 < m := by have := hdm.out; omega
        have hmb : m ≤ 1048576 := by have := hdm.out; omega
        by_cases hq : c % 64 = 0
        · have eq0 : ((c : Int) % 64 == 0) = true := beq_iff_eq.2 (by omega)
          have hq := hid_ hq
          have hm0 : 0 < ss.m := by
            have h1 := hcn.out
            have h2 := hq.out
            rw [List.length_append] at hglen
            have h3 : nd (n + d) + 1 ≤ nd (n + bs.length) := by unfold nd; omega
            omega
          have hglen := hid_ hglen
          have hgm := hid_ hgm
          go_wp2_with (first | ((with_reducible refine wpl ?_); apply al_box (hM := hM); rfl; (first | exact want_none rfl | exact want_some rfl rfl rfl rfl); (first | (focus (go_simp; done)) | (focus (go_simp; rfl))); intro gb w1 hM1; clear hM; dsimp only [Value.cells] at hM1; have hM := hM1; clear hM1; simp only [Act.put, List.setIfInBounds_toArray, List.set_cons_zero, List.set_cons_succ]) | ((with_reducible refine wpl ?_); apply al_zero (hM := hM); rfl; (first | exact want_none rfl | exact want_some rfl rfl rfl rfl); (first | exact zero41); intro gz w1 hM1; clear hM; dsimp only [Value.cells] at hM1; have hM := hM1; clear hM1; simp only [Act.put, List.setIfInBounds_toArray, List.set_cons_zero, List.set_cons_succ]) | ((with_reducible refine wpl ?_); apply ld_row (hM := hM); rfl; (first | exact want_none rfl | exact want_some rfl rfl rfl rfl); rfl; (first | exact .head _ _ | exact .tail (.head _ _) | exact .tail (.tail (.head _ _)) | exact .tail (.tail (.tail (.head _ _))) | exact .tail (.tail (.tail (.tail (.head _ _)))) | exact .tail (.tail (.tail (.tail (.tail (.head _ _)))))); (first | exact row41); simp only [Act.put, List.setIfInBounds_toArray, List.set_cons_zero, List.set_cons_succ]) | ((with_reducible refine wpl ?_); apply st_row (hM := hM); rfl; (first | exact want_none rfl | exact want_some rfl rfl rfl rfl); rfl; (first | (focus (go_simp; done)) | (focus (go_simp; rfl))); (first | exact .head _ _ | exact .tail (.head _ _) | exact .tail (.tail (.head _ _)) | exact .tail (.tail (.tail (.head _ _))) | exact .tail (.tail (.tail (.tail (.head _ _)))) | exact .tail (.tail (.tail (.tail (.tail (.head _ _)))))); rfl; rfl; (first | exact row41); intro w1 hM1; clear hM; (try simp only [List.setIfInBounds_toArray, List.set_cons_zero, List.set_cons_succ] at hM1); (try rw [tab_setInt] at hM1);  have hM := hM1; clear hM1; simp only [Act.put, List.setIfInBounds_toArray, List.set_cons_zero, List.set_cons_succ]) | ((with_reducible refine wpl ?_); apply ld_one (hM := hM); rfl; (first | exact want_none rfl | exact want_some rfl rfl rfl rfl); rfl; (first | exact .head _ _ | exact .tail (.head _ _) | exact .tail (.tail (.head _ _)) | exact .tail (.tail (.tail (.head _ _))) | exact .tail (.tail (.tail (.tail (.head _ _)))) | exact .tail (.tail (.tail (.tail (.tail (.head _ _)))))); (first | (focus (simp only [List.getElem?_toArray, List.getElem?_cons_zero, List.getElem?_cons_succ]; rfl)) | exact tab_get (by omega) | rfl); (first | exact one3 | exact one39); simp only [Act.put, List.setIfInBounds_toArray, List.set_cons_zero, List.set_cons_succ]) | ((with_reducible refine wpl ?_); apply st_cell (hM := hM); rfl; (first | exact want_none rfl | exact want_some rfl rfl rfl rfl); rfl; (first | (focus (go_simp; done)) | (focus (go_simp; rfl))); (first | exact .head _ _ | exact .tail (.head _ _) | exact .tail (.tail (.head _ _)) | exact .tail (.tail (.tail (.head _ _))) | exact .tail (.tail (.tail (.tail (.head _ _)))) | exact .tail (.tail (.tail (.tail (.tail (.head _ _)))))); (first | (focus (simp; done)) | (focus (rw [tab_size]; omega))); rfl; (first | exact one3 | exact one39); intro w1 hM1; clear hM; (try simp only [List.setIfInBounds_toArray, List.set_cons_zero, List.set_cons_succ] at hM1); (try rw [tab_setInt] at hM1);  have hM := hM1; clear hM1; simp only [Act.put, List.setIfInBounds_toArray, List.set_cons_zero, List.set_cons_succ]))
          refine (take hM hgok hm0).mono ?_
          rintro e w4 ⟨k, s2, rfl, hM1, ok2, hk, hk0, hD2, hH2, hm2⟩
          clear hM
          have hM := hM1
          clear hM1
          have hD2 := hid_ hD2
          have hH2 := hid_ hH2
          have hm2 := hid_ hm2
          have hk0 := hid_ hk0
          obtain ⟨Lc, hLc⟩ : ∃ Lc, Hid (L ++ F = Lc) := ⟨_, hid_ rfl⟩
          rw [hLc.out] at hR
          have hLb : Lc.length ≤ 1048576 := by have h1 := hglen.out; rw [hLc.out] at h1; have := hcn.out; unfold nd at h1; omega
          have okB := ok2
          have hidp : k < p.n ∧ 0 < s2.H k := ⟨hk, by rw [hH2.out, up1_self]; decide⟩
          go_wp2_with (first | ((with_reducible refine wpl ?_); apply al_box (hM := hM); rfl; (first | exact want_none rfl | exact want_some rfl rfl rfl rfl); (first | (focus (go_simp; done)) | (focus (go_simp; rfl))); intro gb w1 hM1; clear hM; dsimp only [Value.cells] at hM1; have hM := hM1; clear hM1; simp only [Act.put, List.setIfInBounds_toArray, List.set_cons_zero, List.set_cons_succ]) | ((with_reducible refine wpl ?_); apply al_zero (hM := hM); rfl; (first | exact want_none rfl | exact want_some rfl rfl rfl rfl); (first | exact zero41); intro gz w1 hM1; clear hM; dsimp only [Value.cells] at hM1; have hM := hM1; clear hM1; simp only [Act.put, List.setIfInBounds_toArray, List.set_cons_zero, List.set_cons_succ]) | ((with_reducible refine wpl ?_); apply ld_row (hM := hM); rfl; (first | exact want_none rfl | exact want_some rfl rfl rfl rfl); rfl; (first | exact .head _ _ | exact .tail (.head _ _) | exact .tail (.tail (.head _ _)) | exact .tail (.tail (.tail (.head _ _))) | exact .tail (.tail (.tail (.tail (.head _ _)))) | exact .tail (.tail (.tail (.tail (.tail (.head _ _)))))); (first | exact row41); simp only [Act.put, List.setIfInBounds_toArray, List.set_cons_zero, List.set_cons_succ]) | ((with_reducible refine wpl ?_); apply st_row (hM := hM); rfl; (first | exact want_none rfl | exact want_some rfl rfl rfl rfl); rfl; (first | (focus (go_simp; done)) | (focus (go_simp; rfl))); (first | exact .head _ _ | exact .tail (.head _ _) | exact .tail (.tail (.head _ _)) | exact .tail (.tail (.tail (.head _ _))) | exact .tail (.tail (.tail (.tail (.head _ _)))) | exact .tail (.tail (.tail (.tail (.tail (.head _ _)))))); rfl; rfl; (first | exact row41); intro w1 hM1; clear hM; (try simp only [List.setIfInBounds_toArray, List.set_cons_zero, List.set_cons_succ] at hM1); (try rw [tab_setInt] at hM1);  have hM := hM1; clear hM1; simp only [Act.put, List.setIfInBounds_toArray, List.set_cons_zero, List.set_cons_succ]) | ((with_reducible refine wpl ?_); apply ld_one (hM := hM); rfl; (first | exact want_none rfl | exact want_some rfl rfl rfl rfl); rfl; (first | exact .head _ _ | exact .tail (.head _ _) | exact .tail (.tail (.head _ _)) | exact .tail (.tail (.tail (.head _ _))) | exact .tail (.tail (.tail (.tail (.head _ _)))) | exact .tail (.tail (.tail (.tail (.tail (.head _ _)))))); (first | (focus (simp only [List.getElem?_toArray, List.getElem?_cons_zero, List.getElem?_cons_succ]; rfl)) | exact tab_get (by omega) | rfl); (first | exact one3 | exact one39); simp only [Act.put, List.setIfInBounds_toArray, List.set_cons_zero, List.set_cons_succ]) | ((with_reducible refine wpl ?_); apply st_cell (hM := hM); rfl; (first | exact want_none rfl | exact want_some rfl rfl rfl rfl); rfl; (first | (focus (go_simp; done)) | (focus (go_simp; rfl))); (first | exact .head _ _ | exact .tail (.head _ _) | exact .tail (.tail (.head _ _)) | exact .tail (.tail (.tail (.head _ _))) | exact .tail (.tail (.tail (.tail (.head _ _)))) | exact .tail (.tail (.tail (.tail (.tail (.head _ _)))))); (first | (focus (simp; done)) | (focus (rw [tab_size]; omega))); rfl; (first | exact one3 | exact one39); intro w1 hM1; clear hM; (try simp only [List.setIfInBounds_toArray, List.set_cons_zero, List.set_cons_succ] at hM1); (try rw [tab_setInt] at hM1);  have hM := hM1; clear hM1; simp only [Act.put, List.setIfInBounds_toArray, List.set_cons_zero, List.set_cons_succ]) | ((with_reducible refine wpl ?_); apply al_one (hM := hM) (ht := sl39); rfl; (first | exact want_none rfl | exact want_some rfl rfl rfl rfl); rfl; rfl; intro gq w1 hM1; clear hM; have hM := hM1; clear hM1; simp only [Act.put, List.setIfInBounds_toArray, List.set_cons_zero, List.set_cons_succ]) | ((with_reducible refine wpl ?_); apply ap_room (hM := hM) (hR := hR) (Lc := Lc) (k := k); rfl; (first | exact want_none rfl | exact want_some rfl rfl rfl rfl); rfl; rfl; exact hLb; intro g cc cs M w1 hMl hcs hl hrow hM1; clear hM; have hM := hM1; clear hM1; simp only [Act.put, List.setIfInBounds_toArray, List.set_cons_zero, List.set_cons_succ]))
          case inl =>
            have hMb : M ≤ 1048577 := by have := hMl.out; omega
            obtain ⟨T, hTc⟩ : ∃ T, Hid (T = Lc.length) := ⟨_, hid_ rfl⟩
            have hMT : Hid (M = T + 1) := hid_ (by have := hMl.out; have := hTc.out; omega)
            have hidT : Hid ((Lc ++ [k])[T]? = some k) := hid_ (by rw [hTc.out, List.getElem?_append_right (Nat.le_refl _)]; simp)
            have hS0 := hM.swap.none.swap
            refine reg_begin (fun w' => Mem w0 w' [] (⟨go, #[.slice (some ⟨g, 0, none⟩) M cc, .int .i64 (c : Nat)], 41, (0, 0)⟩ :: ⟨g, cs, 3, (0, 0)⟩ :: ⟨gz, #[.slice none 0 0, .int .i64 0], 41, (0, 0)⟩ :: ⟨gb, #[.slice (some a0) L.length xc, .int .i64 n], 41, (0, 0)⟩ :: l)) (by kernel_rfl) hM (fun wd hMd => ?_)
            clear hM hS0
            have hM := hMd
            clear hMd
            have hS := hM.swap.none.swap
            have ht : ((M : Int) - 1).toNat = T := by have := hMT.out; omega
            have hi2 : (M : Int) - 1 < M := by omega
            have hi3 : 0 ≤ (M : Int) - 1 := by have := hMT.out; omega
            have hi4 : 1 ≤ (M : Int) := by omega
            have hwr : IntKind.i64.wrap ((M : Int) - 1) = (M : Int) - 1 := IntWalk.i64_in _ (by omega)
            have hv : cs[T]? = some (.int .i64 (k : Nat)) := hrow.out T k hidT.out
            refine reg_free 0 (v := own p) rfl (by kernel_rfl) (by kernel_rfl) (by kernel_rfl) (fun _ _ _ h => h) (by (first | exact want_none rfl | exact want_some rfl rfl rfl rfl)) (fun w => by go_simp) hS ?_
            simp only [Act.put, List.setIfInBounds_toArray, List.set_cons_zero, List.set_cons_succ]
            refine reg_free 1 (v := .pointer (some ⟨go, 0, none⟩)) rfl (by kernel_rfl) (by kernel_rfl) (by kernel_rfl) (fun _ _ _ h => h) (by (first | exact want_none rfl | exact want_some rfl rfl rfl rfl)) (fun w => by go_simp) hS ?_
            simp only [Act.put, List.setIfInBounds_toArray, List.set_cons_zero, List.set_cons_succ]
            refine reg_ld_one 2 (v := .slice (some ⟨g, 0, none⟩) M cc) rfl (by kernel_rfl) (by kernel_rfl) (by kernel_rfl) (fun _ _ _ h => h) (by (first | exact want_none rfl | exact want_some rfl rfl rfl rfl)) rfl rfl (by (first | exact .head _ _ | exact .tail (.head _ _) | exact .tail (.tail (.head _ _)) | exact .tail (.tail (.tail (.head _ _))))) (by (first | (focus (simp only [List.getElem?_toArray, List.getElem?_cons_zero, List.getElem?_cons_succ]; rfl)) | exact tab_get (by omega) | rfl)) (by first | exact one3 | exact one39) hS ?_
            simp only [Act.put, List.setIfInBounds_toArray, List.set_cons_zero, List.set_cons_succ]
            refine reg_free 3 (v := .pointer (some ⟨go, 0, none⟩)) rfl (by kernel_rfl) (by kernel_rfl) (by kernel_rfl) (fun _ _ _ h => h) (by (first | exact want_none rfl | exact want_some rfl rfl rfl rfl)) (fun w => by go_simp) hS ?_
            simp only [Act.put, List.setIfInBounds_toArray, List.set_cons_zero, List.set_cons_succ]
            refine reg_ld_one 4 (v := .slice (some ⟨g, 0, none⟩) M cc) rfl (by kernel_rfl) (by kernel_rfl) (by kernel_rfl) (fun _ _ _ h => h) (by (first | exact want_none rfl | exact want_some rfl rfl rfl rfl)) rfl rfl (by (first | exact .head _ _ | exact .tail (.head _ _) | exact .tail (.tail (.head _ _)) | exact .tail (.tail (.tail (.head _ _))))) (by (first | (focus (simp only [List.getElem?_toArray, List.getElem?_cons_zero, List.getElem?_cons_succ]; rfl)) | exact tab_get (by omega) | rfl)) (by first | exact one3 | exact one39) hS ?_
            simp only [Act.put, List.setIfInBounds_toArray, List.set_cons_zero, List.set_cons_succ]
            refine reg_free 5 (v := .int .i64 (M : Nat)) rfl (by kernel_rfl) (by kernel_rfl) (by kernel_rfl) (fun _ _ _ h => h) (by (first | exact want_none rfl | exact want_some rfl rfl rfl rfl)) (fun w => by go_simp) hS ?_
            simp only [Act.put, List.setIfInBounds_toArray, List.set_cons_zero, List.set_cons_succ]
            refine reg_free 6 (v := .int .i64 ((M : Int) - 1)) rfl (by kernel_rfl) (by kernel_rfl) (by kernel_rfl) (fun _ _ _ h => h) (by (first | exact want_none rfl | exact want_some rfl rfl rfl rfl)) (fun w => by go_simp) hS ?_
            simp only [Act.put, List.setIfInBounds_toArray, List.set_cons_zero, List.set_cons_succ]
            refine reg_free 7 (v := .pointer (some ⟨g, T, none⟩)) rfl (by kernel_rfl) (by kernel_rfl) (by kernel_rfl) (fun _ _ _ h => h) (by (first | exact want_none rfl | exact want_some rfl rfl rfl rfl)) (fun w => by go_simp) hS ?_
            simp only [Act.put, List.setIfInBounds_toArray, List.set_cons_zero, List.set_cons_succ]
            refine reg_ld_one 8 (v := .int .i64 (k : Nat)) rfl (by kernel_rfl) (by kernel_rfl) (by kernel_rfl) (fun _ _ _ h => h) (by (first | exact want_none rfl | exact want_some rfl rfl rfl rfl)) rfl rfl (by (first | exact .head _ _ | exact .tail (.head _ _) | exact .tail (.tail (.head _ _)) | exact .tail (.tail (.tail (.head _ _))))) (by exact hv) (by first | exact one3 | exact one39) hS ?_
            simp only [Act.put, List.setIfInBounds_toArray, List.set_cons_zero, List.set_cons_succ]
            refine reg_free 9 (v := .int .i64 ((c : Int) % 64)) rfl (by kernel_rfl) (by kernel_rfl) (by kernel_rfl) (fun _ _ _ h => h) (by (first | exact want_none rfl | exact want_some rfl rfl rfl rfl)) (fun w => by go_simp) hS ?_
            simp only [Act.put, List.setIfInBounds_toArray, List.set_cons_zero, List.set_cons_succ]
            refine reg_free 10 (v := .slice xbb m xbc) rfl (by kernel_rfl) (by kernel_rfl) (by kernel_rfl) (fun _ _ _ h => h) (by (first | exact want_none rfl | exact want_some rfl rfl rfl rfl)) (fun w => by go_simp) hS ?_
            simp only [Act.put, List.setIfInBounds_toArray, List.set_cons_zero, List.set_cons_succ]
            refine reg_free 11 (v := .int .i64 (64 - (c : Int) % 64)) rfl (by kernel_rfl) (by kernel_rfl) (by kernel_rfl) (fun _ _ _ h => h) (by (first | exact want_none rfl | exact want_some rfl rfl rfl rfl)) (fun w => by go_simp) hS ?_
            simp only [Act.put, List.setIfInBounds_toArray, List.set_cons_zero, List.set_cons_succ]
            have hkc : ((64 - c % 64 : Nat) : Int) ≤ (xbc : Int) := by have := (hbx.out wd _ _ hM).cap_le; omega
            have hkz : (0 : Int) ≤ 64 - (c : Int) % 64 := by omega
            have hkl : 64 - (c : Int) % 64 ≤ (xbc : Int) := by omega
            refine reg_free 12 (v := .slice xbb (64 - c % 64) xbc) rfl (by kernel_rfl) (by kernel_rfl) (by kernel_rfl) (fun _ _ _ h => h) (by (first | exact want_none rfl | exact want_some rfl rfl rfl rfl)) (fun w => run_sl_h w (64 - c % 64) rfl und22 has5' rfl rfl (by omega) (by omega)) hS ?_
            simp only [Act.put, List.setIfInBounds_toArray, List.set_cons_zero, List.set_cons_succ]
            refine reg_step 13 (by kernel_rfl) rfl (call_fn rfl (want_none rfl) cf18 (write' hM okB k hidp.1 hidp.2 (c % 64) (vq := (c : Int) % 64) (by omega) (.slice xbb (64 - c % 64) xbc) ((bs.drop d).take (64 - c % 64)) (fun w' hM' => (hbx.out w' _ _ hM').upto (by omega)) (by omega) (by rw [part_len (by have := hdm.out; omega)]; omega)) (by simp only [List.map_toArray, List.map_cons, List.map_nil]; rfl) ?_)
            rintro e wq ⟨sq, rfl, hM1, okq, hDq, hHq, hmq⟩
            clear hM
            have hM := hM1
            clear hM1
            refine ⟨_, rfl, ?_⟩
            clear hS
            have hS := hM.swap.none.swap
            refine ⟨hS, ?_⟩
            simp only [Act.put, List.setIfInBounds_toArray, List.set_cons_zero, List.set_cons_succ]
            refine reg_done (by kernel_rfl) ?_
            clear hS ht hv hwr
            go_wp2_with (first | ((with_reducible refine wpl ?_); apply al_box (hM := hM); rfl; (first | exact want_none rfl | exact want_some rfl rfl rfl rfl); (first | (focus (go_simp; done)) | (focus (go_simp; rfl))); intro gb w1 hM1; clear hM; dsimp only [Value.cells] at hM1; have hM := hM1; clear hM1; simp only [Act.put, List.setIfInBounds_toArray, List.set_cons_zero, List.set_cons_succ]) | ((with_reducible refine wpl ?_); apply al_zero (hM := hM); rfl; (first | exact want_none rfl | exact want_some rfl rfl rfl rfl); (first | exact zero41); intro gz w1 hM1; clear hM; dsimp only [Value.cells] at hM1; have hM := hM1; clear hM1; simp only [Act.put, List.setIfInBounds_toArray, List.set_cons_zero, List.set_cons_succ]) | ((with_reducible refine wpl ?_); apply ld_row (hM := hM); rfl; (first | exact want_none rfl | exact want_some rfl rfl rfl rfl); rfl; (first | exact .head _ _ | exact .tail (.head _ _) | exact .tail (.tail (.head _ _)) | exact .tail (.tail (.tail (.head _ _))) | exact .tail (.tail (.tail (.tail (.head _ _)))) | exact .tail (.tail (.tail (.tail (.tail (.head _ _)))))); (first | exact row41); simp only [Act.put, List.setIfInBounds_toArray, List.set_cons_zero, List.set_cons_succ]) | ((with_reducible refine wpl ?_); apply st_row (hM := hM); rfl; (first | exact want_none rfl | exact want_some rfl rfl rfl rfl); rfl; (first | (focus (go_simp; done)) | (focus (go_simp; rfl))); (first | exact .head _ _ | exact .tail (.head _ _) | exact .tail (.tail (.head _ _)) | exact .tail (.tail (.tail (.head _ _))) | exact .tail (.tail (.tail (.tail (.head _ _)))) | exact .tail (.tail (.tail (.tail (.tail (.head _ _)))))); rfl; rfl; (first | exact row41); intro w1 hM1; clear hM; (try simp only [List.setIfInBounds_toArray, List.set_cons_zero, List.set_cons_succ] at hM1); (try rw [tab_setInt] at hM1);  have hM := hM1; clear hM1; simp only [Act.put, List.setIfInBounds_toArray, List.set_cons_zero, List.set_cons_succ]) | ((with_reducible refine wpl ?_); apply ld_one (hM := hM); rfl; (first | exact want_none rfl | exact want_some rfl rfl rfl rfl); rfl; (first | exact .head _ _ | exact .tail (.head _ _) | exact .tail (.tail (.head _ _)) | exact .tail (.tail (.tail (.head _ _))) | exact .tail (.tail (.tail (.tail (.head _ _)))) | exact .tail (.tail (.tail (.tail (.tail (.head _ _)))))); (first | (focus (simp only [List.getElem?_toArray, List.getElem?_cons_zero, List.getElem?_cons_succ]; rfl)) | exact tab_get (by omega) | rfl); (first | exact one3 | exact one39); simp only [Act.put, List.setIfInBounds_toArray, List.set_cons_zero, List.set_cons_succ]) | ((with_reducible refine wpl ?_); apply st_cell (hM := hM); rfl; (first | exact want_none rfl | exact want_some rfl rfl rfl rfl); rfl; (first | (focus (go_simp; done)) | (focus (go_simp; rfl))); (first | exact .head _ _ | exact .tail (.head _ _) | exact .tail (.tail (.head _ _)) | exact .tail (.tail (.tail (.head _ _))) | exact .tail (.tail (.tail (.tail (.head _ _)))) | exact .tail (.tail (.tail (.tail (.tail (.head _ _)))))); (first | (focus (simp; done)) | (focus (rw [tab_size]; omega))); rfl; (first | exact one3 | exact one39); intro w1 hM1; clear hM; (try simp only [List.setIfInBounds_toArray, List.set_cons_zero, List.set_cons_succ] at hM1); (try rw [tab_setInt] at hM1);  have hM := hM1; clear hM1; simp only [Act.put, List.setIfInBounds_toArray, List.set_cons_zero, List.set_cons_succ]) | ((with_reducible refine wpl ?_); apply sl_l (64 - c % 64); rfl; (first | exact want_none rfl | exact want_some rfl rfl rfl rfl); exact und22; exact size5; rfl; rfl; rfl; omega; omega; simp only [Act.put, List.setIfInBounds_toArray, List.set_cons_zero, List.set_cons_succ]))
            go_roundw
            case rel => 
              have hkm : 64 - c % 64 ≤ m := by omega
              refine ⟨d + (64 - c % 64), m - (64 - c % 64), c + (64 - c % 64), F ++ [k], sq, _, _, _, _, ?_, hid_ (by have := hdm.out; omega), hid_ (by have := hcn.out; omega), rfl, hid_ (fun w' fr' l' h' => ?_), .row g cc cs _ M (hid_ ?_) hcs hl (hid_ ?_), ?_⟩
              · have hce := hcn.out
                subst hce
                exact gr.next hpre okq hq.out hk0.out hk (by have := hq.out; omega) (by omega) (by have := hdm.out; omega) hD2.out hH2.out hm2.out (by rw [hDq, hq.out]) hHq hmq
              · rw [← List.drop_drop]
                have h9 := (hbx.out w' fr' l' h').from_ hkm
                simp only [cutAt, Nat.mul_one, Nat.sub_self] at h9
                exact h9
              · rw [← List.append_assoc, hLc.out, List.length_append, List.length_singleton]; exact hMl.out.symm
              · rw [← List.append_assoc, hLc.out]; exact hrow.out
              · have e : (((c + (64 - c % 64) : Nat)) : Int) = (c : Int) + (64 - (c : Int) % 64) := by omega
                rw [e]
                exact hM
            case measure => simp only [lenOf]; omega
          case inr =>
            have hMb : M ≤ 1048577 := by have := hMl.out; omega
            obtain ⟨T, hTc⟩ : ∃ T, Hid (T = Lc.length) := ⟨_, hid_ rfl⟩
            have hMT : Hid (M = T + 1) := hid_ (by have := hMl.out; have := hTc.out; omega)
            have hidT : Hid ((Lc ++ [k])[T]? = some k) := hid_ (by rw [hTc.out, List.getElem?_append_right (Nat.le_refl _)]; simp)
            have hS0 := hM.swap.none.swap
            refine reg_begin (fun w' => Mem w0 w' [] (⟨go, #[.slice (some ⟨g, 0, none⟩) M cc, .int .i64 (c : Nat)], 41, (0, 0)⟩ :: ⟨g, cs, 3, (0, 0)⟩ :: ⟨gz, #[.slice none 0 0, .int .i64 0], 41, (0, 0)⟩ :: ⟨gb, #[.slice (some a0) L.length xc, .int .i64 n], 41, (0, 0)⟩ :: l)) (by kernel_rfl) hM (fun wd hMd => ?_)
            clear hM hS0
            have hM := hMd
            clear hMd
            have hS := hM.swap.none.swap
            have ht : ((M : Int) - 1).toNat = T := by have := hMT.out; omega
            have hi2 : (M : Int) - 1 < M := by omega
            have hi3 : 0 ≤ (M : Int) - 1 := by have := hMT.out; omega
            have hi4 : 1 ≤ (M : Int) := by omega
            have hwr : IntKind.i64.wrap ((M : Int) - 1) = (M : Int) - 1 := IntWalk.i64_in _ (by omega)
            have hv : cs[T]? = some (.int .i64 (k : Nat)) := hrow.out T k hidT.out
            refine reg_free 0 (v := own p) rfl (by kernel_rfl) (by kernel_rfl) (by kernel_rfl) (fun _ _ _ h => h) (by (first | exact want_none rfl | exact want_some rfl rfl rfl rfl)) (fun w => by go_simp) hS ?_
            simp only [Act.put, List.setIfInBounds_toArray, List.set_cons_zero, List.set_cons_succ]
            refine reg_free 1 (v := .pointer (some ⟨go, 0, none⟩)) rfl (by kernel_rfl) (by kernel_rfl) (by kernel_rfl) (fun _ _ _ h => h) (by (first | exact want_none rfl | exact want_some rfl rfl rfl rfl)) (fun w => by go_simp) hS ?_
            simp only [Act.put, List.setIfInBounds_toArray, List.set_cons_zero, List.set_cons_succ]
            refine reg_ld_one 2 (v := .slice (some ⟨g, 0, none⟩) M cc) rfl (by kernel_rfl) (by kernel_rfl) (by kernel_rfl) (fun _ _ _ h => h) (by (first | exact want_none rfl | exact want_some rfl rfl rfl rfl)) rfl rfl (by (first | exact .head _ _ | exact .tail (.head _ _) | exact .tail (.tail (.head _ _)) | exact .tail (.tail (.tail (.head _ _))))) (by (first | (focus (simp only [List.getElem?_toArray, List.getElem?_cons_zero, List.getElem?_cons_succ]; rfl)) | exact tab_get (by omega) | rfl)) (by first | exact one3 | exact one39) hS ?_
            simp only [Act.put, List.setIfInBounds_toArray, List.set_cons_zero, List.set_cons_succ]
            refine reg_free 3 (v := .pointer (some ⟨go, 0, none⟩)) rfl (by kernel_rfl) (by kernel_rfl) (by kernel_rfl) (fun _ _ _ h => h) (by (first | exact want_none rfl | exact want_some rfl rfl rfl rfl)) (fun w => by go_simp) hS ?_
            simp only [Act.put, List.setIfInBounds_toArray, List.set_cons_zero, List.set_cons_succ]
            refine reg_ld_one 4 (v := .slice (some ⟨g, 0, none⟩) M cc) rfl (by kernel_rfl) (by kernel_rfl) (by kernel_rfl) (fun _ _ _ h => h) (by (first | exact want_none rfl | exact want_some rfl rfl rfl rfl)) rfl rfl (by (first | exact .head _ _ | exact .tail (.head _ _) | exact .tail (.tail (.head _ _)) | exact .tail (.tail (.tail (.head _ _))))) (by (first | (focus (simp only [List.getElem?_toArray, List.getElem?_cons_zero, List.getElem?_cons_succ]; rfl)) | exact tab_get (by omega) | rfl)) (by first | exact one3 | exact one39) hS ?_
            simp only [Act.put, List.setIfInBounds_toArray, List.set_cons_zero, List.set_cons_succ]
            refine reg_free 5 (v := .int .i64 (M : Nat)) rfl (by kernel_rfl) (by kernel_rfl) (by kernel_rfl) (fun _ _ _ h => h) (by (first | exact want_none rfl | exact want_some rfl rfl rfl rfl)) (fun w => by go_simp) hS ?_
            simp only [Act.put, List.setIfInBounds_toArray, List.set_cons_zero, List.set_cons_succ]
            refine reg_free 6 (v := .int .i64 ((M : Int) - 1)) rfl (by kernel_rfl) (by kernel_rfl) (by kernel_rfl) (fun _ _ _ h => h) (by (first | exact want_none rfl | exact want_some rfl rfl rfl rfl)) (fun w => by go_simp) hS ?_
            simp only [Act.put, List.setIfInBounds_toArray, List.set_cons_zero, List.set_cons_succ]
            refine reg_free 7 (v := .pointer (some ⟨g, T, none⟩)) rfl (by kernel_rfl) (by kernel_rfl) (by kernel_rfl) (fun _ _ _ h => h) (by (first | exact want_none rfl | exact want_some rfl rfl rfl rfl)) (fun w => by go_simp) hS ?_
            simp only [Act.put, List.setIfInBounds_toArray, List.set_cons_zero, List.set_cons_succ]
            refine reg_ld_one 8 (v := .int .i64 (k : Nat)) rfl (by kernel_rfl) (by kernel_rfl) (by kernel_rfl) (fun _ _ _ h => h) (by (first | exact want_none rfl | exact want_some rfl rfl rfl rfl)) rfl rfl (by (first | exact .head _ _ | exact .tail (.head _ _) | exact .tail (.tail (.head _ _)) | exact .tail (.tail (.tail (.head _ _))))) (by exact hv) (by first | exact one3 | exact one39) hS ?_
            simp only [Act.put, List.setIfInBounds_toArray, List.set_cons_zero, List.set_cons_succ]
            refine reg_free 9 (v := .int .i64 ((c : Int) % 64)) rfl (by kernel_rfl) (by kernel_rfl) (by kernel_rfl) (fun _ _ _ h => h) (by (first | exact want_none rfl | exact want_some rfl rfl rfl rfl)) (fun w => by go_simp) hS ?_
            simp only [Act.put, List.setIfInBounds_toArray, List.set_cons_zero, List.set_cons_succ]
            refine reg_free 10 (v := .slice xbb m xbc) rfl (by kernel_rfl) (by kernel_rfl) (by kernel_rfl) (fun _ _ _ h => h) (by (first | exact want_none rfl | exact want_some rfl rfl rfl rfl)) (fun w => by go_simp) hS ?_
            simp only [Act.put, List.setIfInBounds_toArray, List.set_cons_zero, List.set_cons_succ]
            refine reg_free 11 (v := .int .i64 ((m : Int))) rfl (by kernel_rfl) (by kernel_rfl) (by kernel_rfl) (fun _ _ _ h => h) (by (first | exact want_none rfl | exact want_some rfl rfl rfl rfl)) (fun w => by go_simp) hS ?_
            simp only [Act.put, List.setIfInBounds_toArray, List.set_cons_zero, List.set_cons_succ]
            have hkc : ((m : Nat) : Int) ≤ (xbc : Int) := by have := (hbx.out wd _ _ hM).cap_le; omega
            have hkz : (0 : Int) ≤ (m : Int) := by omega
            have hkl : (m : Int) ≤ (xbc : Int) := by omega
            refine reg_free 12 (v := .slice xbb (m) xbc) rfl (by kernel_rfl) (by kernel_rfl) (by kernel_rfl) (fun _ _ _ h => h) (by (first | exact want_none rfl | exact want_some rfl rfl rfl rfl)) (fun w => run_sl_h w (m) rfl und22 has5' rfl rfl (by omega) (by omega)) hS ?_
            simp only [Act.put, List.setIfInBounds_toArray, List.set_cons_zero, List.set_cons_succ]
            refine reg_step 13 (by kernel_rfl) rfl (call_fn rfl (want_none rfl) cf18 (write' hM okB k hidp.1 hidp.2 (c % 64) (vq := (c : Int) % 64) (by omega) (.slice xbb (m) xbc) ((bs.drop d).take (m)) (fun w' hM' => (hbx.out w' _ _ hM').upto (by omega)) (by omega) (by rw [part_len (by have := hdm.out; omega)]; omega)) (by simp only [List.map_toArray, List.map_cons, List.map_nil]; rfl) ?_)
            rintro e wq ⟨sq, rfl, hM1, okq, hDq, hHq, hmq⟩
            clear hM
            have hM := hM1
            clear hM1
            refine ⟨_, rfl, ?_⟩
            clear hS
            have hS := hM.swap.none.swap
            refine ⟨hS, ?_⟩
            simp only [Act.put, List.setIfInBounds_toArray, List.set_cons_zero, List.set_cons_succ]
            refine reg_done (by kernel_rfl) ?_
            clear hS ht hv hwr
            go_wp2_with (first | ((with_reducible refine wpl ?_); apply al_box (hM := hM); rfl; (first | exact want_none rfl | exact want_some rfl rfl rfl rfl); (first | (focus (go_simp; done)) | (focus (go_simp; rfl))); intro gb w1 hM1; clear hM; dsimp only [Value.cells] at hM1; have hM := hM1; clear hM1; simp only [Act.put, List.setIfInBounds_toArray, List.set_cons_zero, List.set_cons_succ]) | ((with_reducible refine wpl ?_); apply al_zero (hM := hM); rfl; (first | exact want_none rfl | exact want_some rfl rfl rfl rfl); (first | exact zero41); intro gz w1 hM1; clear hM; dsimp only [Value.cells] at hM1; have hM := hM1; clear hM1; simp only [Act.put, List.setIfInBounds_toArray, List.set_cons_zero, List.set_cons_succ]) | ((with_reducible refine wpl ?_); apply ld_row (hM := hM); rfl; (first | exact want_none rfl | exact want_some rfl rfl rfl rfl); rfl; (first | exact .head _ _ | exact .tail (.head _ _) | exact .tail (.tail (.head _ _)) | exact .tail (.tail (.tail (.head _ _))) | exact .tail (.tail (.tail (.tail (.head _ _)))) | exact .tail (.tail (.tail (.tail (.tail (.head _ _)))))); (first | exact row41); simp only [Act.put, List.setIfInBounds_toArray, List.set_cons_zero, List.set_cons_succ]) | ((with_reducible refine wpl ?_); apply st_row (hM := hM); rfl; (first | exact want_none rfl | exact want_some rfl rfl rfl rfl); rfl; (first | (focus (go_simp; done)) | (focus (go_simp; rfl))); (first | exact .head _ _ | exact .tail (.head _ _) | exact .tail (.tail (.head _ _)) | exact .tail (.tail (.tail (.head _ _))) | exact .tail (.tail (.tail (.tail (.head _ _)))) | exact .tail (.tail (.tail (.tail (.tail (.head _ _)))))); rfl; rfl; (first | exact row41); intro w1 hM1; clear hM; (try simp only [List.setIfInBounds_toArray, List.set_cons_zero, List.set_cons_succ] at hM1); (try rw [tab_setInt] at hM1);  have hM := hM1; clear hM1; simp only [Act.put, List.setIfInBounds_toArray, List.set_cons_zero, List.set_cons_succ]) | ((with_reducible refine wpl ?_); apply ld_one (hM := hM); rfl; (first | exact want_none rfl | exact want_some rfl rfl rfl rfl); rfl; (first | exact .head _ _ | exact .tail (.head _ _) | exact .tail (.tail (.head _ _)) | exact .tail (.tail (.tail (.head _ _))) | exact .tail (.tail (.tail (.tail (.head _ _)))) | exact .tail (.tail (.tail (.tail (.tail (.head _ _)))))); (first | (focus (simp only [List.getElem?_toArray, List.getElem?_cons_zero, List.getElem?_cons_succ]; rfl)) | exact tab_get (by omega) | rfl); (first | exact one3 | exact one39); simp only [Act.put, List.setIfInBounds_toArray, List.set_cons_zero, List.set_cons_succ]) | ((with_reducible refine wpl ?_); apply st_cell (hM := hM); rfl; (first | exact want_none rfl | exact want_some rfl rfl rfl rfl); rfl; (first | (focus (go_simp; done)) | (focus (go_simp; rfl))); (first | exact .head _ _ | exact .tail (.head _ _) | exact .tail (.tail (.head _ _)) | exact .tail (.tail (.tail (.head _ _))) | exact .tail (.tail (.tail (.tail (.head _ _)))) | exact .tail (.tail (.tail (.tail (.tail (.head _ _)))))); (first | (focus (simp; done)) | (focus (rw [tab_size]; omega))); rfl; (first | exact one3 | exact one39); intro w1 hM1; clear hM; (try simp only [List.setIfInBounds_toArray, List.set_cons_zero, List.set_cons_succ] at hM1); (try rw [tab_setInt] at hM1);  have hM := hM1; clear hM1; simp only [Act.put, List.setIfInBounds_toArray, List.set_cons_zero, List.set_cons_succ]) | ((with_reducible refine wpl ?_); apply sl_l (m); rfl; (first | exact want_none rfl | exact want_some rfl rfl rfl rfl); exact und22; exact size5; rfl; rfl; rfl; omega; omega; simp only [Act.put, List.setIfInBounds_toArray, List.set_cons_zero, List.set_cons_succ]))
            go_roundw
            case rel => 
              have hkm : m ≤ m := by omega
              refine ⟨d + (m), 0, c + (m), F ++ [k], sq, _, _, _, _, ?_, hid_ (by have := hdm.out; omega), hid_ (by have := hcn.out; omega), rfl, hid_ (fun w' fr' l' h' => ?_), .row g cc cs _ M (hid_ ?_) hcs hl (hid_ ?_), ?_⟩
              · have hce := hcn.out
                subst hce
                exact gr.next hpre okq hq.out hk0.out hk (by have := hq.out; omega) (by omega) (by have := hdm.out; omega) hD2.out hH2.out hm2.out (by rw [hDq, hq.out]) hHq hmq
              · rw [← List.drop_drop]
                have h9 := (hbx.out w' fr' l' h').from_ hkm
                simp only [cutAt, Nat.mul_one, Nat.sub_self] at h9
                exact h9
              · rw [← List.append_assoc, hLc.out, List.length_append, List.length_singleton]; exact hMl.out.symm
              · rw [← List.append_assoc, hLc.out]; exact hrow.out
              · have e : (((c + (m) : Nat)) : Int) = (c : Int) + ((m : Int)) := by omega
                rw [e]
                exact hM
            case measure => simp only [lenOf]; omega
        · have eq0 : ((c : Int) % 64 == 0) = false := beq_eq_false_iff_ne.2 (by omega)
          have hglen := hid_ hglen
          have hgm := hid_ hgm
          obtain ⟨Lc, hLc⟩ : ∃ Lc, Hid (L ++ F = Lc) := ⟨_, hid_ rfl⟩
          rw [hLc.out] at hR
          cases hR with
          | nil =>
            exfalso
            have h1 := hglen.out
            have h2 := hcn.out
            have h3 : 0 < nd (n + d) := by unfold nd; omega
            rw [hLc.out, List.length_nil] at h1
            omega
          | row g cc cs Lc M hM' hcs hl hrow =>
            obtain ⟨T, hTc⟩ : ∃ T, Hid (T = c / 64) := ⟨_, hid_ rfl⟩
            have hMT : Hid (M = T + 1) := hid_ (by
              have h1 := hglen.out
              have h2 := hcn.out
              have h3 := hM'.out
              have h4 := hTc.out
              rw [hLc.out, h3, ← h2] at h1
              unfold nd at h1
              omega)
            obtain ⟨id, hid'⟩ : ∃ id, Hid (id = Lc.getD T 0) := ⟨_, hid_ rfl⟩
            have hMb : M ≤ 1048577 := by have := hMT.out; have := hTc.out; omega
            have hTl : T < Lc.length := by have := hMT.out; have := hM'.out; omega
            have hidT : Hid (Lc[T]? = some id) := hid_ (by rw [hid'.out, getD_at hTl, List.getElem?_eq_getElem hTl])
            have hidp := gr.pos hpre id (by rw [hLc.out, hid'.out]; exact getD_mem hTl)
            have okB := hgok
            go_wp2_with (first | ((with_reducible refine wpl ?_); apply al_box (hM := hM); rfl; (first | exact want_none rfl | exact want_some rfl rfl rfl rfl); (first | (focus (go_simp; done)) | (focus (go_simp; rfl))); intro gb w1 hM1; clear hM; dsimp only [Value.cells] at hM1; have hM := hM1; clear hM1; simp only [Act.put, List.setIfInBounds_toArray, List.set_cons_zero, List.set_cons_succ]) | ((with_reducible refine wpl ?_); apply al_zero (hM := hM); rfl; (first | exact want_none rfl | exact want_some rfl rfl rfl rfl); (first | exact zero41); intro gz w1 hM1; clear hM; dsimp only [Value.cells] at hM1; have hM := hM1; clear hM1; simp only [Act.put, List.setIfInBounds_toArray, List.set_cons_zero, List.set_cons_succ]) | ((with_reducible refine wpl ?_); apply ld_row (hM := hM); rfl; (first | exact want_none rfl | exact want_some rfl rfl rfl rfl); rfl; (first | exact .head _ _ | exact .tail (.head _ _) | exact .tail (.tail (.head _ _)) | exact .tail (.tail (.tail (.head _ _))) | exact .tail (.tail (.tail (.tail (.head _ _)))) | exact .tail (.tail (.tail (.tail (.tail (.head _ _)))))); (first | exact row41); simp only [Act.put, List.setIfInBounds_toArray, List.set_cons_zero, List.set_cons_succ]) | ((with_reducible refine wpl ?_); apply st_row (hM := hM); rfl; (first | exact want_none rfl | exact want_some rfl rfl rfl rfl); rfl; (first | (focus (go_simp; done)) | (focus (go_simp; rfl))); (first | exact .head _ _ | exact .tail (.head _ _) | exact .tail (.tail (.head _ _)) | exact .tail (.tail (.tail (.head _ _))) | exact .tail (.tail (.tail (.tail (.head _ _)))) | exact .tail (.tail (.tail (.tail (.tail (.head _ _)))))); rfl; rfl; (first | exact row41); intro w1 hM1; clear hM; (try simp only [List.setIfInBounds_toArray, List.set_cons_zero, List.set_cons_succ] at hM1); (try rw [tab_setInt] at hM1);  have hM := hM1; clear hM1; simp only [Act.put, List.setIfInBounds_toArray, List.set_cons_zero, List.set_cons_succ]) | ((with_reducible refine wpl ?_); apply ld_one (hM := hM); rfl; (first | exact want_none rfl | exact want_some rfl rfl rfl rfl); rfl; (first | exact .head _ _ | exact .tail (.head _ _) | exact .tail (.tail (.head _ _)) | exact .tail (.tail (.tail (.head _ _))) | exact .tail (.tail (.tail (.tail (.head _ _)))) | exact .tail (.tail (.tail (.tail (.tail (.head _ _)))))); (first | (focus (simp only [List.getElem?_toArray, List.getElem?_cons_zero, List.getElem?_cons_succ]; rfl)) | exact tab_get (by omega) | rfl); (first | exact one3 | exact one39); simp only [Act.put, List.setIfInBounds_toArray, List.set_cons_zero, List.set_cons_succ]) | ((with_reducible refine wpl ?_); apply st_cell (hM := hM); rfl; (first | exact want_none rfl | exact want_some rfl rfl rfl rfl); rfl; (first | (focus (go_simp; done)) | (focus (go_simp; rfl))); (first | exact .head _ _ | exact .tail (.head _ _) | exact .tail (.tail (.head _ _)) | exact .tail (.tail (.tail (.head _ _))) | exact .tail (.tail (.tail (.tail (.head _ _)))) | exact .tail (.tail (.tail (.tail (.tail (.head _ _)))))); (first | (focus (simp; done)) | (focus (rw [tab_size]; omega))); rfl; (first | exact one3 | exact one39); intro w1 hM1; clear hM; (try simp only [List.setIfInBounds_toArray, List.set_cons_zero, List.set_cons_succ] at hM1); (try rw [tab_setInt] at hM1);  have hM := hM1; clear hM1; simp only [Act.put, List.setIfInBounds_toArray, List.set_cons_zero, List.set_cons_succ]))
            case inl =>
              have hS0 := hM.swap.none.swap
              refine reg_begin (fun w' => Mem w0 w' [] (⟨go, #[.slice (some ⟨g, 0, none⟩) M cc, .int .i64 (c : Nat)], 41, (0, 0)⟩ :: ⟨g, cs, 3, (0, 0)⟩ :: ⟨gz, #[.slice none 0 0, .int .i64 0], 41, (0, 0)⟩ :: ⟨gb, #[.slice (some a0) L.length xc, .int .i64 n], 41, (0, 0)⟩ :: l)) (by kernel_rfl) hM (fun wd hMd => ?_)
              clear hM hS0
              have hM := hMd
              clear hMd
              have hS := hM.swap.none.swap
              have ht : ((M : Int) - 1).toNat = T := by have := hMT.out; omega
              have hi2 : (M : Int) - 1 < M := by omega
              have hi3 : 0 ≤ (M : Int) - 1 := by have := hMT.out; omega
              have hi4 : 1 ≤ (M : Int) := by omega
              have hwr : IntKind.i64.wrap ((M : Int) - 1) = (M : Int) - 1 := IntWalk.i64_in _ (by omega)
              have hv : cs[T]? = some (.int .i64 (id : Nat)) := hrow.out T id hidT.out
              refine reg_free 0 (v := own p) rfl (by kernel_rfl) (by kernel_rfl) (by kernel_rfl) (fun _ _ _ h => h) (by (first | exact want_none rfl | exact want_some rfl rfl rfl rfl)) (fun w => by go_simp) hS ?_
              simp only [Act.put, List.setIfInBounds_toArray, List.set_cons_zero, List.set_cons_succ]
              refine reg_free 1 (v := .pointer (some ⟨go, 0, none⟩)) rfl (by kernel_rfl) (by kernel_rfl) (by kernel_rfl) (fun _ _ _ h => h) (by (first | exact want_none rfl | exact want_some rfl rfl rfl rfl)) (fun w => by go_simp) hS ?_
              simp only [Act.put, List.setIfInBounds_toArray, List.set_cons_zero, List.set_cons_succ]
              refine reg_ld_one 2 (v := .slice (some ⟨g, 0, none⟩) M cc) rfl (by kernel_rfl) (by kernel_rfl) (by kernel_rfl) (fun _ _ _ h => h) (by (first | exact want_none rfl | exact want_some rfl rfl rfl rfl)) rfl rfl (by (first | exact .head _ _ | exact .tail (.head _ _) | exact .tail (.tail (.head _ _)) | exact .tail (.tail (.tail (.head _ _))))) (by (first | (focus (simp only [List.getElem?_toArray, List.getElem?_cons_zero, List.getElem?_cons_succ]; rfl)) | exact tab_get (by omega) | rfl)) (by first | exact one3 | exact one39) hS ?_
              simp only [Act.put, List.setIfInBounds_toArray, List.set_cons_zero, List.set_cons_succ]
              refine reg_free 3 (v := .pointer (some ⟨go, 0, none⟩)) rfl (by kernel_rfl) (by kernel_rfl) (by kernel_rfl) (fun _ _ _ h => h) (by (first | exact want_none rfl | exact want_some rfl rfl rfl rfl)) (fun w => by go_simp) hS ?_
              simp only [Act.put, List.setIfInBounds_toArray, List.set_cons_zero, List.set_cons_succ]
              refine reg_ld_one 4 (v := .slice (some ⟨g, 0, none⟩) M cc) rfl (by kernel_rfl) (by kernel_rfl) (by kernel_rfl) (fun _ _ _ h => h) (by (first | exact want_none rfl | exact want_some rfl rfl rfl rfl)) rfl rfl (by (first | exact .head _ _ | exact .tail (.head _ _) | exact .tail (.tail (.head _ _)) | exact .tail (.tail (.tail (.head _ _))))) (by (first | (focus (simp only [List.getElem?_toArray, List.getElem?_cons_zero, List.getElem?_cons_succ]; rfl)) | exact tab_get (by omega) | rfl)) (by first | exact one3 | exact one39) hS ?_
              simp only [Act.put, List.setIfInBounds_toArray, List.set_cons_zero, List.set_cons_succ]
              refine reg_free 5 (v := .int .i64 (M : Nat)) rfl (by kernel_rfl) (by kernel_rfl) (by kernel_rfl) (fun _ _ _ h => h) (by (first | exact want_none rfl | exact want_some rfl rfl rfl rfl)) (fun w => by go_simp) hS ?_
              simp only [Act.put, List.setIfInBounds_toArray, List.set_cons_zero, List.set_cons_succ]
              refine reg_free 6 (v := .int .i64 ((M : Int) - 1)) rfl (by kernel_rfl) (by kernel_rfl) (by kernel_rfl) (fun _ _ _ h => h) (by (first | exact want_none rfl | exact want_some rfl rfl rfl rfl)) (fun w => by go_simp) hS ?_
              simp only [Act.put, List.setIfInBounds_toArray, List.set_cons_zero, List.set_cons_succ]
              refine reg_free 7 (v := .pointer (some ⟨g, T, none⟩)) rfl (by kernel_rfl) (by kernel_rfl) (by kernel_rfl) (fun _ _ _ h => h) (by (first | exact want_none rfl | exact want_some rfl rfl rfl rfl)) (fun w => by go_simp) hS ?_
              simp only [Act.put, List.setIfInBounds_toArray, List.set_cons_zero, List.set_cons_succ]
              refine reg_ld_one 8 (v := .int .i64 (id : Nat)) rfl (by kernel_rfl) (by kernel_rfl) (by kernel_rfl) (fun _ _ _ h => h) (by (first | exact want_none rfl | exact want_some rfl rfl rfl rfl)) rfl rfl (by (first | exact .head _ _ | exact .tail (.head _ _) | exact .tail (.tail (.head _ _)) | exact .tail (.tail (.tail (.head _ _))))) (by exact hv) (by first | exact one3 | exact one39) hS ?_
              simp only [Act.put, List.setIfInBounds_toArray, List.set_cons_zero, List.set_cons_succ]
              refine reg_free 9 (v := .int .i64 ((c : Int) % 64)) rfl (by kernel_rfl) (by kernel_rfl) (by kernel_rfl) (fun _ _ _ h => h) (by (first | exact want_none rfl | exact want_some rfl rfl rfl rfl)) (fun w => by go_simp) hS ?_
              simp only [Act.put, List.setIfInBounds_toArray, List.set_cons_zero, List.set_cons_succ]
              refine reg_free 10 (v := .slice xbb m xbc) rfl (by kernel_rfl) (by kernel_rfl) (by kernel_rfl) (fun _ _ _ h => h) (by (first | exact want_none rfl | exact want_some rfl rfl rfl rfl)) (fun w => by go_simp) hS ?_
              simp only [Act.put, List.setIfInBounds_toArray, List.set_cons_zero, List.set_cons_succ]
              refine reg_free 11 (v := .int .i64 (64 - (c : Int) % 64)) rfl (by kernel_rfl) (by kernel_rfl) (by kernel_rfl) (fun _ _ _ h => h) (by (first | exact want_none rfl | exact want_some rfl rfl rfl rfl)) (fun w => by go_simp) hS ?_
              simp only [Act.put, List.setIfInBounds_toArray, List.set_cons_zero, List.set_cons_succ]
              have hkc : ((64 - c % 64 : Nat) : Int) ≤ (xbc : Int) := by have := (hbx.out wd _ _ hM).cap_le; omega
              have hkz : (0 : Int) ≤ 64 - (c : Int) % 64 := by omega
              have hkl : 64 - (c : Int) % 64 ≤ (xbc : Int) := by omega
              refine reg_free 12 (v := .slice xbb (64 - c % 64) xbc) rfl (by kernel_rfl) (by kernel_rfl) (by kernel_rfl) (fun _ _ _ h => h) (by (first | exact want_none rfl | exact want_some rfl rfl rfl rfl)) (fun w => run_sl_h w (64 - c % 64) rfl und22 has5' rfl rfl (by omega) (by omega)) hS ?_
              simp only [Act.put, List.setIfInBounds_toArray, List.set_cons_zero, List.set_cons_succ]
              refine reg_step 13 (by kernel_rfl) rfl (call_fn rfl (want_none rfl) cf18 (write' hM okB id hidp.1 hidp.2 (c % 64) (vq := (c : Int) % 64) (by omega) (.slice xbb (64 - c % 64) xbc) ((bs.drop d).take (64 - c % 64)) (fun w' hM' => (hbx.out w' _ _ hM').upto (by omega)) (by omega) (by rw [part_len (by have := hdm.out; omega)]; omega)) (by simp only [List.map_toArray, List.map_cons, List.map_nil]; rfl) ?_)
              rintro e wq ⟨sq, rfl, hM1, okq, hDq, hHq, hmq⟩
              clear hM
              have hM := hM1
              clear hM1
              refine ⟨_, rfl, ?_⟩
              clear hS
              have hS := hM.swap.none.swap
              refine ⟨hS, ?_⟩
              simp only [Act.put, List.setIfInBounds_toArray, List.set_cons_zero, List.set_cons_succ]
              refine reg_done (by kernel_rfl) ?_
              clear hS ht hv hwr
              go_wp2_with (first | ((with_reducible refine wpl ?_); apply al_box (hM := hM); rfl; (first | exact want_none rfl | exact want_some rfl rfl rfl rfl); (first | (focus (go_simp; done)) | (focus (go_simp; rfl))); intro gb w1 hM1; clear hM; dsimp only [Value.cells] at hM1; have hM := hM1; clear hM1; simp only [Act.put, List.setIfInBounds_toArray, List.set_cons_zero, List.set_cons_succ]) | ((with_reducible refine wpl ?_); apply al_zero (hM := hM); rfl; (first | exact want_none rfl | exact want_some rfl rfl rfl rfl); (first | exact zero41); intro gz w1 hM1; clear hM; dsimp only [Value.cells] at hM1; have hM := hM1; clear hM1; simp only [Act.put, List.setIfInBounds_toArray, List.set_cons_zero, List.set_cons_succ]) | ((with_reducible refine wpl ?_); apply ld_row (hM := hM); rfl; (first | exact want_none rfl | exact want_some rfl rfl rfl rfl); rfl; (first | exact .head _ _ | exact .tail (.head _ _) | exact .tail (.tail (.head _ _)) | exact .tail (.tail (.tail (.head _ _))) | exact .tail (.tail (.tail (.tail (.head _ _)))) | exact .tail (.tail (.tail (.tail (.tail (.head _ _)))))); (first | exact row41); simp only [Act.put, List.setIfInBounds_toArray, List.set_cons_zero, List.set_cons_succ]) | ((with_reducible refine wpl ?_); apply st_row (hM := hM); rfl; (first | exact want_none rfl | exact want_some rfl rfl rfl rfl); rfl; (first | (focus (go_simp; done)) | (focus (go_simp; rfl))); (first | exact .head _ _ | exact .tail (.head _ _) | exact .tail (.tail (.head _ _)) | exact .tail (.tail (.tail (.head _ _))) | exact .tail (.tail (.tail (.tail (.head _ _)))) | exact .tail (.tail (.tail (.tail (.tail (.head _ _)))))); rfl; rfl; (first | exact row41); intro w1 hM1; clear hM; (try simp only [List.setIfInBounds_toArray, List.set_cons_zero, List.set_cons_succ] at hM1); (try rw [tab_setInt] at hM1);  have hM := hM1; clear hM1; simp only [Act.put, List.setIfInBounds_toArray, List.set_cons_zero, List.set_cons_succ]) | ((with_reducible refine wpl ?_); apply ld_one (hM := hM); rfl; (first | exact want_none rfl | exact want_some rfl rfl rfl rfl); rfl; (first | exact .head _ _ | exact .tail (.head _ _) | exact .tail (.tail (.head _ _)) | exact .tail (.tail (.tail (.head _ _))) | exact .tail (.tail (.tail (.tail (.head _ _)))) | exact .tail (.tail (.tail (.tail (.tail (.head _ _)))))); (first | (focus (simp only [List.getElem?_toArray, List.getElem?_cons_zero, List.getElem?_cons_succ]; rfl)) | exact tab_get (by omega) | rfl); (first | exact one3 | exact one39); simp only [Act.put, List.setIfInBounds_toArray, List.set_cons_zero, List.set_cons_succ]) | ((with_reducible refine wpl ?_); apply st_cell (hM := hM); rfl; (first | exact want_none rfl | exact want_some rfl rfl rfl rfl); rfl; (first | (focus (go_simp; done)) | (focus (go_simp; rfl))); (first | exact .head _ _ | exact .tail (.head _ _) | exact .tail (.tail (.head _ _)) | exact .tail (.tail (.tail (.head _ _))) | exact .tail (.tail (.tail (.tail (.head _ _)))) | exact .tail (.tail (.tail (.tail (.tail (.head _ _)))))); (first | (focus (simp; done)) | (focus (rw [tab_size]; omega))); rfl; (first | exact one3 | exact one39); intro w1 hM1; clear hM; (try simp only [List.setIfInBounds_toArray, List.set_cons_zero, List.set_cons_succ] at hM1); (try rw [tab_setInt] at hM1);  have hM := hM1; clear hM1; simp only [Act.put, List.setIfInBounds_toArray, List.set_cons_zero, List.set_cons_succ]) | ((with_reducible refine wpl ?_); apply sl_l (64 - c % 64); rfl; (first | exact want_none rfl | exact want_some rfl rfl rfl rfl); exact und22; exact size5; rfl; rfl; rfl; omega; omega; simp only [Act.put, List.setIfInBounds_toArray, List.set_cons_zero, List.set_cons_succ]))
              go_roundw
              case rel => 
                have hkm : 64 - c % 64 ≤ m := by omega
                refine ⟨d + (64 - c % 64), m - (64 - c % 64), c + (64 - c % 64), F, sq, _, _, _, _, ?_, hid_ (by have := hdm.out; omega), hid_ (by have := hcn.out; omega), rfl, hid_ (fun w' fr' l' h' => ?_), .row g cc cs _ M (hid_ ?_) hcs hl (hid_ ?_), ?_⟩
                · have hce := hcn.out
                  subst hce
                  exact gr.near okq hq (by omega) (by have := hdm.out; omega) (by rw [hDq, hid'.out, ← hLc.out, hTc.out]) hHq hmq
                · rw [← List.drop_drop]
                  have h9 := (hbx.out w' fr' l' h').from_ hkm
                  simp only [cutAt, Nat.mul_one, Nat.sub_self] at h9
                  exact h9
                · rw [hLc.out]; exact hM'.out
                · rw [hLc.out]; exact hrow.out
                · have e : (((c + (64 - c % 64) : Nat)) : Int) = (c : Int) + (64 - (c : Int) % 64) := by omega
                  rw [e]
                  exact hM
              case measure => simp only [lenOf]; omega
            case inr =>
              have hS0 := hM.swap.none.swap
              refine reg_begin (fun w' => Mem w0 w' [] (⟨go, #[.slice (some ⟨g, 0, none⟩) M cc, .int .i64 (c : Nat)], 41, (0, 0)⟩ :: ⟨g, cs, 3, (0, 0)⟩ :: ⟨gz, #[.slice none 0 0, .int .i64 0], 41, (0, 0)⟩ :: ⟨gb, #[.slice (some a0) L.length xc, .int .i64 n], 41, (0, 0)⟩ :: l)) (by kernel_rfl) hM (fun wd hMd => ?_)
              clear hM hS0
              have hM := hMd
              clear hMd
              have hS := hM.swap.none.swap
              have ht : ((M : Int) - 1).toNat = T := by have := hMT.out; omega
              have hi2 : (M : Int) - 1 < M := by omega
              have hi3 : 0 ≤ (M : Int) - 1 := by have := hMT.out; omega
              have hi4 : 1 ≤ (M : Int) := by omega
              have hwr : IntKind.i64.wrap ((M : Int) - 1) = (M : Int) - 1 := IntWalk.i64_in _ (by omega)
              have hv : cs[T]? = some (.int .i64 (id : Nat)) := hrow.out T id hidT.out
              refine reg_free 0 (v := own p) rfl (by kernel_rfl) (by kernel_rfl) (by kernel_rfl) (fun _ _ _ h => h) (by (first | exact want_none rfl | exact want_some rfl rfl rfl rfl)) (fun w => by go_simp) hS ?_
              simp only [Act.put, List.setIfInBounds_toArray, List.set_cons_zero, List.set_cons_succ]
              refine reg_free 1 (v := .pointer (some ⟨go, 0, none⟩)) rfl (by kernel_rfl) (by kernel_rfl) (by kernel_rfl) (fun _ _ _ h => h) (by (first | exact want_none rfl | exact want_some rfl rfl rfl rfl)) (fun w => by go_simp) hS ?_
              simp only [Act.put, List.setIfInBounds_toArray, List.set_cons_zero, List.set_cons_succ]
              refine reg_ld_one 2 (v := .slice (some ⟨g, 0, none⟩) M cc) rfl (by kernel_rfl) (by kernel_rfl) (by kernel_rfl) (fun _ _ _ h => h) (by (first | exact want_none rfl | exact want_some rfl rfl rfl rfl)) rfl rfl (by (first | exact .head _ _ | exact .tail (.head _ _) | exact .tail (.tail (.head _ _)) | exact .tail (.tail (.tail (.head _ _))))) (by (first | (focus (simp only [List.getElem?_toArray, List.getElem?_cons_zero, List.getElem?_cons_succ]; rfl)) | exact tab_get (by omega) | rfl)) (by first | exact one3 | exact one39) hS ?_
              simp only [Act.put, List.setIfInBounds_toArray, List.set_cons_zero, List.set_cons_succ]
              refine reg_free 3 (v := .pointer (some ⟨go, 0, none⟩)) rfl (by kernel_rfl) (by kernel_rfl) (by kernel_rfl) (fun _ _ _ h => h) (by (first | exact want_none rfl | exact want_some rfl rfl rfl rfl)) (fun w => by go_simp) hS ?_
              simp only [Act.put, List.setIfInBounds_toArray, List.set_cons_zero, List.set_cons_succ]
              refine reg_ld_one 4 (v := .slice (some ⟨g, 0, none⟩) M cc) rfl (by kernel_rfl) (by kernel_rfl) (by kernel_rfl) (fun _ _ _ h => h) (by (first | exact want_none rfl | exact want_some rfl rfl rfl rfl)) rfl rfl (by (first | exact .head _ _ | exact .tail (.head _ _) | exact .tail (.tail (.head _ _)) | exact .tail (.tail (.tail (.head _ _))))) (by (first | (focus (simp only [List.getElem?_toArray, List.getElem?_cons_zero, List.getElem?_cons_succ]; rfl)) | exact tab_get (by omega) | rfl)) (by first | exact one3 | exact one39) hS ?_
              simp only [Act.put, List.setIfInBounds_toArray, List.set_cons_zero, List.set_cons_succ]
              refine reg_free 5 (v := .int .i64 (M : Nat)) rfl (by kernel_rfl) (by kernel_rfl) (by kernel_rfl) (fun _ _ _ h => h) (by (first | exact want_none rfl | exact want_some rfl rfl rfl rfl)) (fun w => by go_simp) hS ?_
              simp only [Act.put, List.setIfInBounds_toArray, List.set_cons_zero, List.set_cons_succ]
              refine reg_free 6 (v := .int .i64 ((M : Int) - 1)) rfl (by kernel_rfl) (by kernel_rfl) (by kernel_rfl) (fun _ _ _ h => h) (by (first | exact want_none rfl | exact want_some rfl rfl rfl rfl)) (fun w => by go_simp) hS ?_
              simp only [Act.put, List.setIfInBounds_toArray, List.set_cons_zero, List.set_cons_succ]
              refine reg_free 7 (v := .pointer (some ⟨g, T, none⟩)) rfl (by kernel_rfl) (by kernel_rfl) (by kernel_rfl) (fun _ _ _ h => h) (by (first | exact want_none rfl | exact want_some rfl rfl rfl rfl)) (fun w => by go_simp) hS ?_
              simp only [Act.put, List.setIfInBounds_toArray, List.set_cons_zero, List.set_cons_succ]
              refine reg_ld_one 8 (v := .int .i64 (id : Nat)) rfl (by kernel_rfl) (by kernel_rfl) (by kernel_rfl) (fun _ _ _ h => h) (by (first | exact want_none rfl | exact want_some rfl rfl rfl rfl)) rfl rfl (by (first | exact .head _ _ | exact .tail (.head _ _) | exact .tail (.tail (.head _ _)) | exact .tail (.tail (.tail (.head _ _))))) (by exact hv) (by first | exact one3 | exact one39) hS ?_
              simp only [Act.put, List.setIfInBounds_toArray, List.set_cons_zero, List.set_cons_succ]
              refine reg_free 9 (v := .int .i64 ((c : Int) % 64)) rfl (by kernel_rfl) (by kernel_rfl) (by kernel_rfl) (fun _ _ _ h => h) (by (first | exact want_none rfl | exact want_some rfl rfl rfl rfl)) (fun w => by go_simp) hS ?_
              simp only [Act.put, List.setIfInBounds_toArray, List.set_cons_zero, List.set_cons_succ]
              refine reg_free 10 (v := .slice xbb m xbc) rfl (by kernel_rfl) (by kernel_rfl) (by kernel_rfl) (fun _ _ _ h => h) (by (first | exact want_none rfl | exact want_some rfl rfl rfl rfl)) (fun w => by go_simp) hS ?_
              simp only [Act.put, List.setIfInBounds_toArray, List.set_cons_zero, List.set_cons_succ]
              refine reg_free 11 (v := .int .i64 ((m : Int))) rfl (by kernel_rfl) (by kernel_rfl) (by kernel_rfl) (fun _ _ _ h => h) (by (first | exact want_none rfl | exact want_some rfl rfl rfl rfl)) (fun w => by go_simp) hS ?_
              simp only [Act.put, List.setIfInBounds_toArray, List.set_cons_zero, List.set_cons_succ]
              have hkc : ((m : Nat) : Int) ≤ (xbc : Int) := by have := (hbx.out wd _ _ hM).cap_le; omega
              have hkz : (0 : Int) ≤ (m : Int) := by omega
              have hkl : (m : Int) ≤ (xbc : Int) := by omega
              refine reg_free 12 (v := .slice xbb (m) xbc) rfl (by kernel_rfl) (by kernel_rfl) (by kernel_rfl) (fun _ _ _ h => h) (by (first | exact want_none rfl | exact want_some rfl rfl rfl rfl)) (fun w => run_sl_h w (m) rfl und22 has5' rfl rfl (by omega) (by omega)) hS ?_
              simp only [Act.put, List.setIfInBounds_toArray, List.set_cons_zero, List.set_cons_succ]
              refine reg_step 13 (by kernel_rfl) rfl (call_fn rfl (want_none rfl) cf18 (write' hM okB id hidp.1 hidp.2 (c % 64) (vq := (c : Int) % 64) (by omega) (.slice xbb (m) xbc) ((bs.drop d).take (m)) (fun w' hM' => (hbx.out w' _ _ hM').upto (by omega)) (by omega) (by rw [part_len (by have := hdm.out; omega)]; omega)) (by simp only [List.map_toArray, List.map_cons, List.map_nil]; rfl) ?_)
              rintro e wq ⟨sq, rfl, hM1, okq, hDq, hHq, hmq⟩
              clear hM
              have hM := hM1
              clear hM1
              refine ⟨_, rfl, ?_⟩
              clear hS
              have hS := hM.swap.none.swap
              refine ⟨hS, ?_⟩
              simp only [Act.put, List.setIfInBounds_toArray, List.set_cons_zero, List.set_cons_succ]
              refine reg_done (by kernel_rfl) ?_
              clear hS ht hv hwr
              go_wp2_with (first | ((with_reducible refine wpl ?_); apply al_box (hM := hM); rfl; (first | exact want_none rfl | exact want_some rfl rfl rfl rfl); (first | (focus (go_simp; done)) | (focus (go_simp; rfl))); intro gb w1 hM1; clear hM; dsimp only [Value.cells] at hM1; have hM := hM1; clear hM1; simp only [Act.put, List.setIfInBounds_toArray, List.set_cons_zero, List.set_cons_succ]) | ((with_reducible refine wpl ?_); apply al_zero (hM := hM); rfl; (first | exact want_none rfl | exact want_some rfl rfl rfl rfl); (first | exact zero41); intro gz w1 hM1; clear hM; dsimp only [Value.cells] at hM1; have hM := hM1; clear hM1; simp only [Act.put, List.setIfInBounds_toArray, List.set_cons_zero, List.set_cons_succ]) | ((with_reducible refine wpl ?_); apply ld_row (hM := hM); rfl; (first | exact want_none rfl | exact want_some rfl rfl rfl rfl); rfl; (first | exact .head _ _ | exact .tail (.head _ _) | exact .tail (.tail (.head _ _)) | exact .tail (.tail (.tail (.head _ _))) | exact .tail (.tail (.tail (.tail (.head _ _)))) | exact .tail (.tail (.tail (.tail (.tail (.head _ _)))))); (first | exact row41); simp only [Act.put, List.setIfInBounds_toArray, List.set_cons_zero, List.set_cons_succ]) | ((with_reducible refine wpl ?_); apply st_row (hM := hM); rfl; (first | exact want_none rfl | exact want_some rfl rfl rfl rfl); rfl; (first | (focus (go_simp; done)) | (focus (go_simp; rfl))); (first | exact .head _ _ | exact .tail (.head _ _) | exact .tail (.tail (.head _ _)) | exact .tail (.tail (.tail (.head _ _))) | exact .tail (.tail (.tail (.tail (.head _ _)))) | exact .tail (.tail (.tail (.tail (.tail (.head _ _)))))); rfl; rfl; (first | exact row41); intro w1 hM1; clear hM; (try simp only [List.setIfInBounds_toArray, List.set_cons_zero, List.set_cons_succ] at hM1); (try rw [tab_setInt] at hM1);  have hM := hM1; clear hM1; simp only [Act.put, List.setIfInBounds_toArray, List.set_cons_zero, List.set_cons_succ]) | ((with_reducible refine wpl ?_); apply ld_one (hM := hM); rfl; (first | exact want_none rfl | exact want_some rfl rfl rfl rfl); rfl; (first | exact .head _ _ | exact .tail (.head _ _) | exact .tail (.tail (.head _ _)) | exact .tail (.tail (.tail (.head _ _))) | exact .tail (.tail (.tail (.tail (.head _ _)))) | exact .tail (.tail (.tail (.tail (.tail (.head _ _)))))); (first | (focus (simp only [List.getElem?_toArray, List.getElem?_cons_zero, List.getElem?_cons_succ]; rfl)) | exact tab_get (by omega) | rfl); (first | exact one3 | exact one39); simp only [Act.put, List.setIfInBounds_toArray, List.set_cons_zero, List.set_cons_succ]) | ((with_reducible refine wpl ?_); apply st_cell (hM := hM); rfl; (first | exact want_none rfl | exact want_some rfl rfl rfl rfl); rfl; (first | (focus (go_simp; done)) | (focus (go_simp; rfl))); (first | exact .head _ _ | exact .tail (.head _ _) | exact .tail (.tail (.head _ _)) | exact .tail (.tail (.tail (.head _ _))) | exact .tail (.tail (.tail (.tail (.head _ _)))) | exact .tail (.tail (.tail (.tail (.tail (.head _ _)))))); (first | (focus (simp; done)) | (focus (rw [tab_size]; omega))); rfl; (first | exact one3 | exact one39); intro w1 hM1; clear hM; (try simp only [List.setIfInBounds_toArray, List.set_cons_zero, List.set_cons_succ] at hM1); (try rw [tab_setInt] at hM1);  have hM := hM1; clear hM1; simp only [Act.put, List.setIfInBounds_toArray, List.set_cons_zero, List.set_cons_succ]) | ((with_reducible refine wpl ?_); apply sl_l (m); rfl; (first | exact want_none rfl | exact want_some rfl rfl rfl rfl); exact und22; exact size5; rfl; rfl; rfl; omega; omega; simp only [Act.put, List.setIfInBounds_toArray, List.set_cons_zero, List.set_cons_succ]))
              go_roundw
              case rel => 
                have hkm : m ≤ m := by omega
                refine ⟨d + (m), 0, c + (m), F, sq, _, _, _, _, ?_, hid_ (by have := hdm.out; omega), hid_ (by have := hcn.out; omega), rfl, hid_ (fun w' fr' l' h' => ?_), .row g cc cs _ M (hid_ ?_) hcs hl (hid_ ?_), ?_⟩
                · have hce := hcn.out
                  subst hce
                  exact gr.near okq hq (by omega) (by have := hdm.out; omega) (by rw [hDq, hid'.out, ← hLc.out, hTc.out]) hHq hmq
                · rw [← List.drop_drop]
                  have h9 := (hbx.out w' fr' l' h').from_ hkm
                  simp only [cutAt, Nat.mul_one, Nat.sub_self] at h9
                  exact h9
                · rw [hLc.out]; exact hM'.out
                · rw [hLc.out]; exact hrow.out
                · have e : (((c + (m) : Nat)) : Int) = (c : Int) + ((m : Int)) := by omega
                  rw [e]
                  exact hM
              case measure => simp only [lenOf]; omega
      · have hdl := gr.d_le
        obtain rfl : d = bs.length := by omega
        obtain rfl : m = 0 := by have := hdm.out; omega
        obtain ⟨Lc, hLc⟩ : ∃ Lc, Hid (L ++ F = Lc) := ⟨_, hid_ rfl⟩
        rw [hLc.out] at hR
        have hglen := hid_ hglen
        have hgm := hid_ hgm
        cases hR with
        | nil =>
          exfalso
          have h1 := hglen.out
          have h3 : 0 < nd (n + bs.length) := by unfold nd; omega
          rw [hLc.out, List.length_nil] at h1
          omega
        | row g cc cs Lc M hM' hcs hl hrow =>
          go_wp2_with (first | ((with_reducible refine wpl ?_); apply al_box (hM := hM); rfl; (first | exact want_none rfl | exact want_some rfl rfl rfl rfl); (first | (focus (go_simp; done)) | (focus (go_simp; rfl))); intro gb w1 hM1; clear hM; dsimp only [Value.cells] at hM1; have hM := hM1; clear hM1; simp only [Act.put, List.setIfInBounds_toArray, List.set_cons_zero, List.set_cons_succ]) | ((with_reducible refine wpl ?_); apply al_zero (hM := hM); rfl; (first | exact want_none rfl | exact want_some rfl rfl rfl rfl); (first | exact zero41); intro gz w1 hM1; clear hM; dsimp only [Value.cells] at hM1; have hM := hM1; clear hM1; simp only [Act.put, List.setIfInBounds_toArray, List.set_cons_zero, List.set_cons_succ]) | ((with_reducible refine wpl ?_); apply ld_row (hM := hM); rfl; (first | exact want_none rfl | exact want_some rfl rfl rfl rfl); rfl; (first | exact .head _ _ | exact .tail (.head _ _) | exact .tail (.tail (.head _ _)) | exact .tail (.tail (.tail (.head _ _))) | exact .tail (.tail (.tail (.tail (.head _ _)))) | exact .tail (.tail (.tail (.tail (.tail (.head _ _)))))); (first | exact row41); simp only [Act.put, List.setIfInBounds_toArray, List.set_cons_zero, List.set_cons_succ]) | ((with_reducible refine wpl ?_); apply st_row (hM := hM); rfl; (first | exact want_none rfl | exact want_some rfl rfl rfl rfl); rfl; (first | (focus (go_simp; done)) | (focus (go_simp; rfl))); (first | exact .head _ _ | exact .tail (.head _ _) | exact .tail (.tail (.head _ _)) | exact .tail (.tail (.tail (.head _ _))) | exact .tail (.tail (.tail (.tail (.head _ _)))) | exact .tail (.tail (.tail (.tail (.tail (.head _ _)))))); rfl; rfl; (first | exact row41); intro w1 hM1; clear hM; (try simp only [List.setIfInBounds_toArray, List.set_cons_zero, List.set_cons_succ] at hM1); (try rw [tab_setInt] at hM1);  have hM := hM1; clear hM1; simp only [Act.put, List.setIfInBounds_toArray, List.set_cons_zero, List.set_cons_succ]) | ((with_reducible refine wpl ?_); apply ld_one (hM := hM); rfl; (first | exact want_none rfl | exact want_some rfl rfl rfl rfl); rfl; (first | exact .head _ _ | exact .tail (.head _ _) | exact .tail (.tail (.head _ _)) | exact .tail (.tail (.tail (.head _ _))) | exact .tail (.tail (.tail (.tail (.head _ _)))) | exact .tail (.tail (.tail (.tail (.tail (.head _ _)))))); (first | (focus (simp only [List.getElem?_toArray, List.getElem?_cons_zero, List.getElem?_cons_succ]; rfl)) | exact tab_get (by omega) | rfl); (first | exact one3 | exact one39); simp only [Act.put, List.setIfInBounds_toArray, List.set_cons_zero, List.set_cons_succ]) | ((with_reducible refine wpl ?_); apply st_cell (hM := hM); rfl; (first | exact want_none rfl | exact want_some rfl rfl rfl rfl); rfl; (first | (focus (go_simp; done)) | (focus (go_simp; rfl))); (first | exact .head _ _ | exact .tail (.head _ _) | exact .tail (.tail (.head _ _)) | exact .tail (.tail (.tail (.head _ _))) | exact .tail (.tail (.tail (.tail (.head _ _)))) | exact .tail (.tail (.tail (.tail (.tail (.head _ _)))))); (first | (focus (simp; done)) | (focus (rw [tab_size]; omega))); rfl; (first | exact one3 | exact one39); intro w1 hM1; clear hM; (try simp only [List.setIfInBounds_toArray, List.set_cons_zero, List.set_cons_succ] at hM1); (try rw [tab_setInt] at hM1);  have hM := hM1; clear hM1; simp only [Act.put, List.setIfInBounds_toArray, List.set_cons_zero, List.set_cons_succ]))
          obtain ⟨B, hB1, hM1, hI1⟩ := parked (hM.sub (.cons (.tail (.tail (.head _ _))) (.same _))) hM'.out hl hrow.out
          have hce := hcn.out
          subst hce
          have hap := App.own hc HOWN.out gr
          rw [hLc.out] at hap
          exact bodyPost_ret (results_row rfl hM rfl (.head _ _) row41 rfl) rfl ⟨ss, _, Lc, B, rfl, hB1, hI1, hM1.tail.tail.tail, hap⟩

end
end Go.Proofs.Ytiamkbmefllljaa.E
