/- Contents as a base keeps them; a content is shared. Conditions: a content whose blocks are held. -/
import Derived.Test.YtiamkbmefllljaaExt3
import Derived.Test.YtiamkbmefllljaaReg
set_option linter.unusedSimpArgs false
set_option linter.unusedVariables false
namespace Go.Proofs.Ytiamkbmefllljaa.E
open Go.RowKit Go.Proofs.Ytiamkbmefllljaa.M Go.Proofs.Ytiamkbmefllljaa.A Go.Proofs.Ytiamkbmefllljaa.L

theorem zero41 : zeroIs Try.prog 41 (.agg #[.slice none 0 0, .int .i64 0]) := rfl
theorem cf32 : ∀ (vs : Array Value) (w : World), (callFunc 32 vs).run Try.prog w = .ok (.enter 32 vs) w := fun vs w => by kernel_rfl
theorem cf18 : ∀ (vs : Array Value) (w : World), (callFunc 18 vs).run Try.prog w = .ok (.enter 18 vs) w := fun vs w => by kernel_rfl

/-- B keeps what A keeps. -/
structure Le (A B : Base) : Prop where
  w : B.w = A.w
  ms : ∀ x ∈ A.ms, x ∈ B.ms

theorem Le.refl (A : Base) : Le A A := ⟨rfl, fun _ h => h⟩
theorem Le.trans {A B C : Base} (h : Le A B) (k : Le B C) : Le A C := ⟨k.w.trans h.w, fun x hx => k.ms x (h.ms x hx)⟩
theorem Le.mem {A B : Base} (h : Le A B) {w : World} {fr l : List Blk} (hM : Mem B w fr l) : Mem A w fr l := by
  obtain ⟨aw, am⟩ := A
  have := hM.fewer h.ms
  obtain ⟨hw, _⟩ := h
  simp only at hw
  rw [hw] at this
  exact this
theorem Le.park {A : Base} (g : Nat) (o : Obj) : Le A ⟨A.w, (g, o) :: A.ms⟩ := ⟨rfl, fun _ h => List.mem_cons_of_mem _ h⟩

/-- The slice x is the numbers L, in every world over the base. -/
def IdsAt (B : Base) (x : Value) (L : List Nat) : Prop := ∀ (w : World) (fr l : List Blk), Mem B w fr l → Ints w x L

theorem IdsAt.le {A B : Base} (h : Le A B) {x : Value} {L : List Nat} (hI : IdsAt A x L) : IdsAt B x L := fun w fr l hM => hI w fr l (h.mem hM)
theorem IdsAt.nil (B : Base) : IdsAt B (.slice none 0 0) [] := fun _ _ _ _ => .nil

/-- A known row of numbers is laid away. -/
theorem parked {w0 : Base} {w : World} {fr l : List Blk} {g c n : Nat} {cs : Array Value} {t : TypeId} {fz : Nat × Nat} {L : List Nat} (hM : Mem w0 w fr (⟨g, cs, t, fz⟩ :: l)) (hn : L.length = n) (hc : n ≤ c) (h : ∀ (j b : Nat), L[j]? = some b → cs[j]? = some (i64 b)) :
    ∃ B, Le w0 B ∧ Mem B w fr l ∧ IdsAt B (.slice (some ⟨g, 0, none⟩) n c) L := by
  refine ⟨_, Le.park g (.cells cs t fz), hM.park, fun w' fr' l' hM' => ?_⟩
  subst hn
  refine .at_ _ _ _ hc (fun j b hj => ?_)
  rw [Addr.add_lit, Nat.zero_add]
  have hk := hM'.kget (g := g) (o := .cells cs t fz) (List.mem_cons_self ..)
  exact (cell_of_row w' g j cs t fz hk).trans (h j b hj)

section
variable {w0 : Base} {w : World} {p : Ptr} {s : St} {A l : List Blk}

/-- A copy of numbers. -/
theorem clone_ (hM : Mem w0 w A l) (x : Value) (L : List Nat) (hI : IdsAt w0 x L) (hL : L.length ≤ 1048576) :
    Calls Try.prog 32 #[x] w fun e w' => ∃ y l', e = .returned y ∧ Mem w0 w' A (l' ++ l) ∧
      ((y = .slice none 0 0 ∧ L = [] ∧ l' = []) ∨ ∃ g c cs, y = .slice (some ⟨g, 0, none⟩) L.length c ∧ l' = [⟨g, cs, 3, (0, 0)⟩] ∧ cs.size = c ∧ L.length ≤ c ∧ ∀ (j b : Nat), L[j]? = some b → cs[j]? = some (i64 b)) := by
  have h := hI w A l hM
  obtain ⟨b, c, rfl⟩ := h.len
  cases b with
  | none =>
    generalize hv : Value.slice none L.length c = v at h
    cases h with
    | nil =>
      refine (clone_nil hM).mono ?_
      rintro e w' ⟨rfl, hM'⟩
      exact ⟨_, [], rfl, hM', .inl ⟨rfl, rfl, rfl⟩⟩
    | at_ => simp at hv
  | some a =>
    refine (clone_some hM a c L (fun w' h' => hI w' A l h') hL).mono ?_
    rintro e w' ⟨g, c', cs, rfl, hM', h1, h2, h3⟩
    exact ⟨_, [_], rfl, hM', .inr ⟨g, c', cs, rfl, rfl, h1, h2, h3⟩⟩

set_option maxHeartbeats 2000000 in
theorem eshare (hM : Mem w0 w (arena p s) l) (ok : Okay p s) (x : Value) (L : List Nat) (n : Nat) (hI : IdsAt w0 x L) (hL : L.length ≤ 1048576)
    (hv : ∀ id ∈ L, id < p.n ∧ 0 < s.H id ∧ s.H id + (L.count id : Nat) ≤ 1073741824) :
    Calls Try.prog 23 #[own p, .agg #[x, .int .i64 n]] w fun e w' => ∃ s' y B, e = .returned (.tuple #[.agg #[y, .int .i64 n], .int .i64 0]) ∧ Le w0 B ∧ IdsAt B y L ∧ Mem B w' (arena p s') l ∧ Okay p s' ∧ s'.D = s.D ∧ s'.m = s.m ∧ (∀ id, s'.H id = s.H id + L.count id) := by
  obtain ⟨xb, xc, rfl⟩ := (hI w _ _ hM).len
  go_enter Try.func23, Try.ntmps23
  go_wp2_with (first
    | ((with_reducible refine wpl ?_); apply al_box (hM := hM); rfl; (first | exact want_none rfl | exact want_some rfl rfl rfl rfl); (first | (focus (go_simp; done)) | (focus (go_simp; rfl))); intro gb w1 hM1; clear hM; dsimp only [Value.cells] at hM1; have hM := hM1; clear hM1; simp only [Act.put, List.setIfInBounds_toArray, List.set_cons_zero, List.set_cons_succ])
    | ((with_reducible refine wpl ?_); apply al_zero (hM := hM); rfl; (first | exact want_none rfl | exact want_some rfl rfl rfl rfl); (first | exact zero41); intro gz w1 hM1; clear hM; dsimp only [Value.cells] at hM1; have hM := hM1; clear hM1; simp only [Act.put, List.setIfInBounds_toArray, List.set_cons_zero, List.set_cons_succ])
    | ((with_reducible refine wpl ?_); apply ld_row (hM := hM); rfl; (first | exact want_none rfl | exact want_some rfl rfl rfl rfl); rfl; (first | exact .head _ _ | exact .tail (.head _ _) | exact .tail (.tail (.head _ _)) | exact .tail (.tail (.tail (.head _ _))) | exact .tail (.tail (.tail (.tail (.head _ _))))); (first | exact row41); simp only [Act.put, List.setIfInBounds_toArray, List.set_cons_zero, List.set_cons_succ])
    | ((with_reducible refine wpl ?_); apply st_row (hM := hM); rfl; (first | exact want_none rfl | exact want_some rfl rfl rfl rfl); rfl; (first | (focus (go_simp; done)) | (focus (go_simp; rfl))); (first | exact .head _ _ | exact .tail (.head _ _) | exact .tail (.tail (.head _ _)) | exact .tail (.tail (.tail (.head _ _))) | exact .tail (.tail (.tail (.tail (.head _ _))))); rfl; rfl; (first | exact row41); intro w1 hM1; clear hM; (try simp only [List.setIfInBounds_toArray, List.set_cons_zero, List.set_cons_succ] at hM1); (try rw [tab_setInt] at hM1);  have hM := hM1; clear hM1; simp only [Act.put, List.setIfInBounds_toArray, List.set_cons_zero, List.set_cons_succ])
    | ((with_reducible refine wpl ?_); apply ld_one (hM := hM); rfl; (first | exact want_none rfl | exact want_some rfl rfl rfl rfl); rfl; (first | exact .head _ _ | exact .tail (.head _ _) | exact .tail (.tail (.head _ _)) | exact .tail (.tail (.tail (.head _ _))) | exact .tail (.tail (.tail (.tail (.head _ _))))); (first | (focus (simp only [List.getElem?_toArray, List.getElem?_cons_zero, List.getElem?_cons_succ]; rfl)) | exact tab_get (by omega) | rfl); (first | exact one3 | exact one39); simp only [Act.put, List.setIfInBounds_toArray, List.set_cons_zero, List.set_cons_succ])
    | ((with_reducible refine wpl ?_); apply st_cell (hM := hM); rfl; (first | exact want_none rfl | exact want_some rfl rfl rfl rfl); rfl; (first | (focus (go_simp; done)) | (focus (go_simp; rfl))); (first | exact .head _ _ | exact .tail (.head _ _) | exact .tail (.tail (.head _ _)) | exact .tail (.tail (.tail (.head _ _))) | exact .tail (.tail (.tail (.tail (.head _ _))))); (first | (focus (simp; done)) | (focus (rw [tab_size]; omega))); rfl; (first | exact one3 | exact one39); intro w1 hM1; clear hM; (try simp only [List.setIfInBounds_toArray, List.set_cons_zero, List.set_cons_succ] at hM1); (try rw [tab_setInt] at hM1);  have hM := hM1; clear hM1; simp only [Act.put, List.setIfInBounds_toArray, List.set_cons_zero, List.set_cons_succ]))
  go_loopw [14] (fun xi wr => ∃ (i : Nat) (ss : St), i ≤ L.length ∧ xi = .int .i64 i ∧ Okay p ss ∧ ss.D = s.D ∧ ss.m = s.m ∧ Hid (∀ id, ss.H id = s.H id + ((L.take i).count id : Nat)) ∧ Mem w0 wr (arena p ss) (⟨gz, #[.slice none 0 0, .int .i64 0], 41, (0, 0)⟩ :: ⟨gb, #[.slice xb L.length xc, .int .i64 n], 41, (0, 0)⟩ :: l)) (fun xi _ => L.length - (intOf xi).toNat)
  case atStart => exact ⟨0, s, Nat.zero_le _, by go_num, ok, rfl, rfl, (fun id => by simp), hM⟩
  case round =>
    obtain ⟨i, ss, hi, rfl, oks, hD, hm, hH, hMr⟩ := hrel
    clear hM
    have hM := hMr
    clear hMr
    by_cases hlt : i < L.length
    · obtain ⟨a, rfl, hc⟩ := (hI wr _ _ hM).cell hlt
      have hid := hv L[i] (List.getElem_mem hlt)
      have hst := count_step hlt
      have hle := count_take_le L (i + 1) L[i]
      have h1 := hst L[i]
      rw [if_pos rfl] at h1
      generalize L[i] = id at hc hid hst hle h1
      unfold i64 at hc
      have hp : 0 < ss.H id := by have := hH.out id; omega
      have hp2 : ss.H id < 1073741824 := by have := hH.out id; omega
      have hmh : Hid (ss.m = s.m) := hid_ hm
      clear hm
      go_wp2_with (first | ((with_reducible refine wpl ?_); apply al_box (hM := hM); rfl; (first | exact want_none rfl | exact want_some rfl rfl rfl rfl); (first | (focus (go_simp; done)) | (focus (go_simp; rfl))); intro gb w1 hM1; clear hM; dsimp only [Value.cells] at hM1; have hM := hM1; clear hM1; simp only [Act.put, List.setIfInBounds_toArray, List.set_cons_zero, List.set_cons_succ]) | ((with_reducible refine wpl ?_); apply al_zero (hM := hM); rfl; (first | exact want_none rfl | exact want_some rfl rfl rfl rfl); (first | exact zero41); intro gz w1 hM1; clear hM; dsimp only [Value.cells] at hM1; have hM := hM1; clear hM1; simp only [Act.put, List.setIfInBounds_toArray, List.set_cons_zero, List.set_cons_succ]) | ((with_reducible refine wpl ?_); apply ld_row (hM := hM); rfl; (first | exact want_none rfl | exact want_some rfl rfl rfl rfl); rfl; (first | exact .head _ _ | exact .tail (.head _ _) | exact .tail (.tail (.head _ _)) | exact .tail (.tail (.tail (.head _ _))) | exact .tail (.tail (.tail (.tail (.head _ _))))); (first | exact row41); simp only [Act.put, List.setIfInBounds_toArray, List.set_cons_zero, List.set_cons_succ]) | ((with_reducible refine wpl ?_); apply st_row (hM := hM); rfl; (first | exact want_none rfl | exact want_some rfl rfl rfl rfl); rfl; (first | (focus (go_simp; done)) | (focus (go_simp; rfl))); (first | exact .head _ _ | exact .tail (.head _ _) | exact .tail (.tail (.head _ _)) | exact .tail (.tail (.tail (.head _ _))) | exact .tail (.tail (.tail (.tail (.head _ _))))); rfl; rfl; (first | exact row41); intro w1 hM1; clear hM; (try simp only [List.setIfInBounds_toArray, List.set_cons_zero, List.set_cons_succ] at hM1); (try rw [tab_setInt] at hM1);  have hM := hM1; clear hM1; simp only [Act.put, List.setIfInBounds_toArray, List.set_cons_zero, List.set_cons_succ]) | ((with_reducible refine wpl ?_); apply ld_one (hM := hM); rfl; (first | exact want_none rfl | exact want_some rfl rfl rfl rfl); rfl; (first | exact .head _ _ | exact .tail (.head _ _) | exact .tail (.tail (.head _ _)) | exact .tail (.tail (.tail (.head _ _))) | exact .tail (.tail (.tail (.tail (.head _ _))))); (first | (focus (simp only [List.getElem?_toArray, List.getElem?_cons_zero, List.getElem?_cons_succ]; rfl)) | exact tab_get (by omega) | rfl); (first | exact one3 | exact one39); simp only [Act.put, List.setIfInBounds_toArray, List.set_cons_zero, List.set_cons_succ]) | ((with_reducible refine wpl ?_); apply st_cell (hM := hM); rfl; (first | exact want_none rfl | exact want_some rfl rfl rfl rfl); rfl; (first | (focus (go_simp; done)) | (focus (go_simp; rfl))); (first | exact .head _ _ | exact .tail (.head _ _) | exact .tail (.tail (.head _ _)) | exact .tail (.tail (.tail (.head _ _))) | exact .tail (.tail (.tail (.tail (.head _ _))))); (first | (focus (simp; done)) | (focus (rw [tab_size]; omega))); rfl; (first | exact one3 | exact one39); intro w1 hM1; clear hM; (try simp only [List.setIfInBounds_toArray, List.set_cons_zero, List.set_cons_succ] at hM1); (try rw [tab_setInt] at hM1);  have hM := hM1; clear hM1; simp only [Act.put, List.setIfInBounds_toArray, List.set_cons_zero, List.set_cons_succ]))
      refine (hold hM oks id hid.1 hp hp2).mono ?_
      rintro e w4 ⟨s4, rfl, hM1, ok4, hD4, hH4, hm4⟩
      clear hM
      have hM := hM1
      clear hM1
      have hm4' : Hid (s4.m = s.m) := hid_ (hm4.trans hmh.out)
      clear hm4
      go_wp2_with (first | ((with_reducible refine wpl ?_); apply al_box (hM := hM); rfl; (first | exact want_none rfl | exact want_some rfl rfl rfl rfl); (first | (focus (go_simp; done)) | (focus (go_simp; rfl))); intro gb w1 hM1; clear hM; dsimp only [Value.cells] at hM1; have hM := hM1; clear hM1; simp only [Act.put, List.setIfInBounds_toArray, List.set_cons_zero, List.set_cons_succ]) | ((with_reducible refine wpl ?_); apply al_zero (hM := hM); rfl; (first | exact want_none rfl | exact want_some rfl rfl rfl rfl); (first | exact zero41); intro gz w1 hM1; clear hM; dsimp only [Value.cells] at hM1; have hM := hM1; clear hM1; simp only [Act.put, List.setIfInBounds_toArray, List.set_cons_zero, List.set_cons_succ]) | ((with_reducible refine wpl ?_); apply ld_row (hM := hM); rfl; (first | exact want_none rfl | exact want_some rfl rfl rfl rfl); rfl; (first | exact .head _ _ | exact .tail (.head _ _) | exact .tail (.tail (.head _ _)) | exact .tail (.tail (.tail (.head _ _))) | exact .tail (.tail (.tail (.tail (.head _ _))))); (first | exact row41); simp only [Act.put, List.setIfInBounds_toArray, List.set_cons_zero, List.set_cons_succ]) | ((with_reducible refine wpl ?_); apply st_row (hM := hM); rfl; (first | exact want_none rfl | exact want_some rfl rfl rfl rfl); rfl; (first | (focus (go_simp; done)) | (focus (go_simp; rfl))); (first | exact .head _ _ | exact .tail (.head _ _) | exact .tail (.tail (.head _ _)) | exact .tail (.tail (.tail (.head _ _))) | exact .tail (.tail (.tail (.tail (.head _ _))))); rfl; rfl; (first | exact row41); intro w1 hM1; clear hM; (try simp only [List.setIfInBounds_toArray, List.set_cons_zero, List.set_cons_succ] at hM1); (try rw [tab_setInt] at hM1);  have hM := hM1; clear hM1; simp only [Act.put, List.setIfInBounds_toArray, List.set_cons_zero, List.set_cons_succ]) | ((with_reducible refine wpl ?_); apply ld_one (hM := hM); rfl; (first | exact want_none rfl | exact want_some rfl rfl rfl rfl); rfl; (first | exact .head _ _ | exact .tail (.head _ _) | exact .tail (.tail (.head _ _)) | exact .tail (.tail (.tail (.head _ _))) | exact .tail (.tail (.tail (.tail (.head _ _))))); (first | (focus (simp only [List.getElem?_toArray, List.getElem?_cons_zero, List.getElem?_cons_succ]; rfl)) | exact tab_get (by omega) | rfl); (first | exact one3 | exact one39); simp only [Act.put, List.setIfInBounds_toArray, List.set_cons_zero, List.set_cons_succ]) | ((with_reducible refine wpl ?_); apply st_cell (hM := hM); rfl; (first | exact want_none rfl | exact want_some rfl rfl rfl rfl); rfl; (first | (focus (go_simp; done)) | (focus (go_simp; rfl))); (first | exact .head _ _ | exact .tail (.head _ _) | exact .tail (.tail (.head _ _)) | exact .tail (.tail (.tail (.head _ _))) | exact .tail (.tail (.tail (.tail (.head _ _))))); (first | (focus (simp; done)) | (focus (rw [tab_size]; omega))); rfl; (first | exact one3 | exact one39); intro w1 hM1; clear hM; (try simp only [List.setIfInBounds_toArray, List.set_cons_zero, List.set_cons_succ] at hM1); (try rw [tab_setInt] at hM1);  have hM := hM1; clear hM1; simp only [Act.put, List.setIfInBounds_toArray, List.set_cons_zero, List.set_cons_succ]))
      go_roundw
      case rel => exact ⟨i + 1, s4, by omega, by go_num, ok4, hD4.trans hD, hm4'.out, (fun j => by
                    have h2 := hH.out j
                    have h3 := hst j
                    rw [hH4]; unfold up1
                    by_cases e : j = id
                    · subst e; rw [if_pos rfl] at h3 ⊢; omega
                    · rw [if_neg e]; rw [if_neg (fun h => e h.symm)] at h3; omega), hM⟩
      case measure => simp [intOf]; omega
    · obtain rfl : i = L.length := by omega
      rw [List.take_length] at hH
      have hmh : Hid (ss.m = s.m) := hid_ hm
      clear hm
      go_wp2_with (first | ((with_reducible refine wpl ?_); apply al_box (hM := hM); rfl; (first | exact want_none rfl | exact want_some rfl rfl rfl rfl); (first | (focus (go_simp; done)) | (focus (go_simp; rfl))); intro gb w1 hM1; clear hM; dsimp only [Value.cells] at hM1; have hM := hM1; clear hM1; simp only [Act.put, List.setIfInBounds_toArray, List.set_cons_zero, List.set_cons_succ]) | ((with_reducible refine wpl ?_); apply al_zero (hM := hM); rfl; (first | exact want_none rfl | exact want_some rfl rfl rfl rfl); (first | exact zero41); intro gz w1 hM1; clear hM; dsimp only [Value.cells] at hM1; have hM := hM1; clear hM1; simp only [Act.put, List.setIfInBounds_toArray, List.set_cons_zero, List.set_cons_succ]) | ((with_reducible refine wpl ?_); apply ld_row (hM := hM); rfl; (first | exact want_none rfl | exact want_some rfl rfl rfl rfl); rfl; (first | exact .head _ _ | exact .tail (.head _ _) | exact .tail (.tail (.head _ _)) | exact .tail (.tail (.tail (.head _ _))) | exact .tail (.tail (.tail (.tail (.head _ _))))); (first | exact row41); simp only [Act.put, List.setIfInBounds_toArray, List.set_cons_zero, List.set_cons_succ]) | ((with_reducible refine wpl ?_); apply st_row (hM := hM); rfl; (first | exact want_none rfl | exact want_some rfl rfl rfl rfl); rfl; (first | (focus (go_simp; done)) | (focus (go_simp; rfl))); (first | exact .head _ _ | exact .tail (.head _ _) | exact .tail (.tail (.head _ _)) | exact .tail (.tail (.tail (.head _ _))) | exact .tail (.tail (.tail (.tail (.head _ _))))); rfl; rfl; (first | exact row41); intro w1 hM1; clear hM; (try simp only [List.setIfInBounds_toArray, List.set_cons_zero, List.set_cons_succ] at hM1); (try rw [tab_setInt] at hM1);  have hM := hM1; clear hM1; simp only [Act.put, List.setIfInBounds_toArray, List.set_cons_zero, List.set_cons_succ]) | ((with_reducible refine wpl ?_); apply ld_one (hM := hM); rfl; (first | exact want_none rfl | exact want_some rfl rfl rfl rfl); rfl; (first | exact .head _ _ | exact .tail (.head _ _) | exact .tail (.tail (.head _ _)) | exact .tail (.tail (.tail (.head _ _))) | exact .tail (.tail (.tail (.tail (.head _ _))))); (first | (focus (simp only [List.getElem?_toArray, List.getElem?_cons_zero, List.getElem?_cons_succ]; rfl)) | exact tab_get (by omega) | rfl); (first | exact one3 | exact one39); simp only [Act.put, List.setIfInBounds_toArray, List.set_cons_zero, List.set_cons_succ]) | ((with_reducible refine wpl ?_); apply st_cell (hM := hM); rfl; (first | exact want_none rfl | exact want_some rfl rfl rfl rfl); rfl; (first | (focus (go_simp; done)) | (focus (go_simp; rfl))); (first | exact .head _ _ | exact .tail (.head _ _) | exact .tail (.tail (.head _ _)) | exact .tail (.tail (.tail (.head _ _))) | exact .tail (.tail (.tail (.tail (.head _ _))))); (first | (focus (simp; done)) | (focus (rw [tab_size]; omega))); rfl; (first | exact one3 | exact one39); intro w1 hM1; clear hM; (try simp only [List.setIfInBounds_toArray, List.set_cons_zero, List.set_cons_succ] at hM1); (try rw [tab_setInt] at hM1);  have hM := hM1; clear hM1; simp only [Act.put, List.setIfInBounds_toArray, List.set_cons_zero, List.set_cons_succ]))
      refine reg_begin (fun w' => Mem w0 w' (arena p ss) (⟨gb, #[.slice xb L.length xc, .int .i64 n], 41, (0, 0)⟩ :: l)) (by kernel_rfl) hM (fun wd hMd => ?_)
      clear hM
      have hM := hMd
      clear hMd
      have hS := hM.tail
      refine reg_free 0 (v := .pointer (some ⟨gb, 0, none⟩)) rfl (by kernel_rfl) (by kernel_rfl) (by kernel_rfl) (fun _ _ _ h => h) (by (first | exact want_none rfl | exact want_some rfl rfl rfl rfl)) (fun w => by go_simp) hS ?_
      simp only [Act.put, List.setIfInBounds_toArray, List.set_cons_zero, List.set_cons_succ]
      refine reg_free 3 (v := .pointer (some ⟨gb, 1, none⟩)) rfl (by kernel_rfl) (by kernel_rfl) (by kernel_rfl) (fun _ _ _ h => h) (by (first | exact want_none rfl | exact want_some rfl rfl rfl rfl)) (fun w => by go_simp) hS ?_
      simp only [Act.put, List.setIfInBounds_toArray, List.set_cons_zero, List.set_cons_succ]
      refine reg_ld_one 1 (v := .slice xb L.length xc) rfl (by kernel_rfl) (by kernel_rfl) (by kernel_rfl) (fun _ _ _ h => h) (by (first | exact want_none rfl | exact want_some rfl rfl rfl rfl)) rfl rfl (by (first | exact .head _ _ | exact .tail (.head _ _) | exact .tail (.tail (.head _ _)) | exact .tail (.tail (.tail (.head _ _))))) (by (first | (focus (simp only [List.getElem?_toArray, List.getElem?_cons_zero, List.getElem?_cons_succ]; rfl)) | exact tab_get (by omega) | rfl)) (by first | exact one3 | exact one39) hS ?_
      simp only [Act.put, List.setIfInBounds_toArray, List.set_cons_zero, List.set_cons_succ]
      refine reg_ld_one 4 (v := .int .i64 n) rfl (by kernel_rfl) (by kernel_rfl) (by kernel_rfl) (fun _ _ _ h => h) (by (first | exact want_none rfl | exact want_some rfl rfl rfl rfl)) rfl rfl (by (first | exact .head _ _ | exact .tail (.head _ _) | exact .tail (.tail (.head _ _)) | exact .tail (.tail (.tail (.head _ _))))) (by (first | (focus (simp only [List.getElem?_toArray, List.getElem?_cons_zero, List.getElem?_cons_succ]; rfl)) | exact tab_get (by omega) | rfl)) (by first | exact one3 | exact one39) hS ?_
      simp only [Act.put, List.setIfInBounds_toArray, List.set_cons_zero, List.set_cons_succ]
      refine reg_step 2 (by kernel_rfl) rfl (call_fn rfl (want_none rfl) cf32 (clone_ hM _ L hI hL) (by simp only [List.map_toArray, List.map_cons, List.map_nil]; rfl) ?_)
      rintro e w4 ⟨y, l', rfl, hM1, hy⟩
      clear hM
      have hM := hM1
      clear hM1
      refine ⟨y, rfl, ?_⟩
      clear hS
      rcases hy with ⟨rfl, rfl, rfl⟩ | ⟨g, c, cs, rfl, rfl, hs1, hs2, hs3⟩
      · have hS : Mem w0 w4 (arena p ss) (⟨gb, #[.slice xb 0 xc, .int .i64 n], 41, (0, 0)⟩ :: l) := hM.tail
        refine ⟨hS, ?_⟩
        simp only [Act.put, List.setIfInBounds_toArray, List.set_cons_zero, List.set_cons_succ]
        refine reg_free 5 (v := .agg #[.slice none 0 0, .int .i64 n]) rfl (by kernel_rfl) (by kernel_rfl) (by kernel_rfl) (fun _ _ _ h => h) (by (first | exact want_none rfl | exact want_some rfl rfl rfl rfl)) (fun w => by go_simp) hS ?_
        simp only [Act.put, List.setIfInBounds_toArray, List.set_cons_zero, List.set_cons_succ]
        refine reg_step 6 (by kernel_rfl) rfl ?_
        apply st_row (hM := hM); rfl; (first | exact want_none rfl | exact want_some rfl rfl rfl rfl); rfl; (first | (focus (go_simp; done)) | (focus (go_simp; rfl))); (first | exact .head _ _ | exact .tail (.head _ _) | exact .tail (.tail (.head _ _)) | exact .tail (.tail (.tail (.head _ _))) | exact .tail (.tail (.tail (.tail (.head _ _))))); rfl; rfl; exact row41
        intro w5 hM1
        clear hM
        have hM := hM1
        clear hM1
        clear hS
        have hS := hM.tail
        refine ⟨hS, ?_⟩
        simp only [Act.put, List.setIfInBounds_toArray, List.set_cons_zero, List.set_cons_succ]
        refine reg_free 7 (v := .int .i64 0) rfl (by kernel_rfl) (by kernel_rfl) (by kernel_rfl) (fun _ _ _ h => h) (by (first | exact want_none rfl | exact want_some rfl rfl rfl rfl)) (fun w => by go_simp) hS ?_
        simp only [Act.put, List.setIfInBounds_toArray, List.set_cons_zero, List.set_cons_succ]
        refine reg_done (by kernel_rfl) ?_
        go_wp2
        exact bodyPost_ret (results_row rfl hM rfl (.head _ _) row41 rfl) rfl ⟨ss, _, w0, rfl, Le.refl _, IdsAt.nil _, hM.tail.tail, oks, hD, hmh.out, hH.out⟩
      · have hS : Mem w0 w4 (arena p ss) (⟨gb, #[.slice xb L.length xc, .int .i64 n], 41, (0, 0)⟩ :: l) := hM.tail.tail
        refine ⟨hS, ?_⟩
        simp only [Act.put, List.setIfInBounds_toArray, List.set_cons_zero, List.set_cons_succ]
        refine reg_free 5 (v := .agg #[.slice (some ⟨g, 0, none⟩) L.length c, .int .i64 n]) rfl (by kernel_rfl) (by kernel_rfl) (by kernel_rfl) (fun _ _ _ h => h) (by (first | exact want_none rfl | exact want_some rfl rfl rfl rfl)) (fun w => by go_simp) hS ?_
        simp only [Act.put, List.setIfInBounds_toArray, List.set_cons_zero, List.set_cons_succ]
        refine reg_step 6 (by kernel_rfl) rfl ?_
        apply st_row (hM := hM); rfl; (first | exact want_none rfl | exact want_some rfl rfl rfl rfl); rfl; (first | (focus (go_simp; done)) | (focus (go_simp; rfl))); (first | exact .head _ _ | exact .tail (.head _ _) | exact .tail (.tail (.head _ _)) | exact .tail (.tail (.tail (.head _ _))) | exact .tail (.tail (.tail (.tail (.head _ _))))); rfl; rfl; exact row41
        intro w5 hM1
        clear hM
        have hM := hM1
        clear hM1
        clear hS
        have hS := hM.tail.tail
        refine ⟨hS, ?_⟩
        simp only [Act.put, List.setIfInBounds_toArray, List.set_cons_zero, List.set_cons_succ]
        refine reg_free 7 (v := .int .i64 0) rfl (by kernel_rfl) (by kernel_rfl) (by kernel_rfl) (fun _ _ _ h => h) (by (first | exact want_none rfl | exact want_some rfl rfl rfl rfl)) (fun w => by go_simp) hS ?_
        simp only [Act.put, List.setIfInBounds_toArray, List.set_cons_zero, List.set_cons_succ]
        refine reg_done (by kernel_rfl) ?_
        obtain ⟨B, hB, hM1, hI1⟩ := parked (hM.sub (.cons (.tail (.head _ _)) (.same _))) rfl hs2 hs3
        go_wp2
        exact bodyPost_ret (results_row rfl hM rfl (.head _ _) row41 rfl) rfl ⟨ss, _, B, rfl, hB, hI1, hM1.tail.tail, oks, hD, hmh.out, hH.out⟩
end
end Go.Proofs.Ytiamkbmefllljaa.E
