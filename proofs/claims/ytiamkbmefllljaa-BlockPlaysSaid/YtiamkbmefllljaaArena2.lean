/- Blocks of a store are taken, written and read. Conditions: a store that may be. -/
import Derived.Test.YtiamkbmefllljaaArena
set_option linter.unusedSimpArgs false
set_option linter.unusedVariables false
namespace Go.Proofs.Ytiamkbmefllljaa.A
open Go.RowKit Go.Proofs.Ytiamkbmefllljaa.M

theorem und56 : Try.prog.underlying 56 = some (.array 64 5) := by kernel_rfl
theorem und22 : Try.prog.underlying 22 = some (.slice 5) := by kernel_rfl
theorem und39 : Try.prog.underlying 39 = some (.slice 3) := by kernel_rfl
theorem size5 : (Try.prog.info? 5).map (·.size) = some 1 := by kernel_rfl
theorem size3 : (Try.prog.info? 3).map (·.size) = some 1 := by kernel_rfl
theorem has3 : ((Try.prog.info? 3).map (·.size)).isSome = true := by kernel_rfl
theorem sl39 : SlTy Try.prog 39 3 1 8 (.int .i64 0) := ⟨by kernel_rfl, by kernel_rfl⟩
theorem sl22 : SlTy Try.prog 22 5 1 1 (.int .u8 0) := ⟨by kernel_rfl, by kernel_rfl⟩
theorem lay_part {n k q : Nat} {D : Nat → UInt8} {bs : List UInt8} (hk : k < n) (hq : q ≤ 64) (hl : bs.length ≤ 64 - q) :
    lay (tab (n * 64) fun i => u8 (D i)) (k * 64 + skp 64 q 1) (bs.map u8) = tab (n * 64) fun i => u8 (put D (k * 64 + q) bs i) := by
  have hk2 : k * 64 + 64 ≤ n * 64 := by omega
  unfold skp
  by_cases h : 64 = q
  · rw [if_pos h]
    have hb : bs = [] := List.eq_nil_of_length_eq_zero (by omega)
    subst hb
    rw [lay_tab u8 (by simp; omega)]
    apply tab_congr
    intro i _
    congr 1
    unfold put
    simp
  · rw [if_neg h, Nat.mul_one]
    exact lay_tab u8 (by omega)

theorem src_part {w0 : Base} {w : World} {fr l r : List Blk} {g N k q n c : Nat} {D : Nat → UInt8} {t : TypeId} {fz : Nat × Nat} (hM : Mem w0 w fr l) (hp : Pick l ⟨g, tab (N * 64) fun i => u8 (D i), t, fz⟩ r) (hk : k < N) (hq : q ≤ 64) (hn : n ≤ 64 - q) :
    Src Try.prog 1 22 (.slice (some ⟨g, k * 64 + skp 64 q 1, none⟩) n c) n ((List.range n).map fun j => u8 (D (k * 64 + q + j))) w := by
  have hk2 : k * 64 + 64 ≤ N * 64 := by omega
  refine Src.ofSlice w und22 _ n c _ (by simp) (fun j u hu => ?_) (fun u hu => ?_)
  · rw [List.getElem?_map] at hu
    by_cases hj : j < n
    · rw [List.getElem?_range hj] at hu
      simp only [Option.map_some, Option.some.injEq] at hu
      subst hu
      have hs : skp 64 q 1 = q := by unfold skp; split <;> omega
      rw [Addr.add_lit, hM.cell hp, hs, tab_get (by omega)]
    · rw [List.getElem?_eq_none (by simpa using hj)] at hu
      cases hu
  · obtain ⟨b, _, rfl⟩ := List.mem_map.1 hu
    rfl

theorem lay_int {N o : Nat} {F : Nat → Int} {v : Int} (h : o + 1 ≤ N) : lay (tab N fun i => .int .i64 (F i)) o [.int .i64 v] = tab N fun i => .int .i64 (put F o [v] i) :=
  lay_tab (Value.int .i64) (l := [v]) h

/-- A block is cleared. -/
theorem st_zero {ops : Array Oper} {Q : Exit → Act → World → Prop} {R : Act → World → Prop} {a : Act} {w : World} {w0 : Base} {o : Oper} {fr l r : List Blk} {x y : Operand} {g k n : Nat} {D : Nat → UInt8} {t : TypeId}
    (hop : o.op = .store 56 x y) (hw : Region.wanted o (yielded ops a.tmps) = true) (hM : Mem w0 w fr l)
    (hx : a.eval x = .pointer (some ⟨g, k * 64, none⟩)) (hy : a.eval y = .agg (Array.replicate 64 (u8 0))) (hp : Pick l ⟨g, tab (n * 64) fun i => u8 (D i), t, (0, 0)⟩ r) (hk : k < n)
    (h : ∀ w', Mem w0 w' fr (⟨g, tab (n * 64) fun i => u8 (put D (k * 64) (List.replicate 64 0) i), t, (0, 0)⟩ :: r) → R (a.put o.dst undef) w') : WPK Try.prog ops Q R o a w := by
  have hk2 : k * 64 + 64 ≤ n * 64 := by omega
  have hl : lay (tab (n * 64) fun i => u8 (D i)) (k * 64) (Array.replicate 64 (u8 0)).toList = tab (n * 64) fun i => u8 (put D (k * 64) (List.replicate 64 0) i) := by
    have := lay_tab u8 (D := D) (o := k * 64) (N := n * 64) (l := List.replicate 64 0) (by rw [List.length_replicate]; exact hk2)
    rw [List.map_replicate] at this
    rw [Array.toList_replicate]
    exact this
  refine st_at hop hw hM hx hy hp ?_ (by kernel_rfl) row56 (fun w' h2 => h w' ?_)
  · rw [tab_size, Array.size_replicate]; exact hk2
  · rw [hl] at h2; exact h2

section
variable {w0 : Base} {w : World} {p : Ptr} {s : St} {l : List Blk}

set_option maxHeartbeats 1000000 in
theorem write_ok (hM : Mem w0 w (arena p s) l) (k : Nat) (h1 : k < p.n) (h2 : decide (0 < s.H k) = true) (h3 : p.n ≤ 16384) (q : Nat) (x : Value) (bs : List UInt8) (hB : ∀ w', Mem w0 w' (arena p s) l → Bytes w' x bs) (hq : q ≤ 64) (hl : bs.length ≤ 64 - q) :
    Calls Try.prog 18 #[.pointer (some ⟨p.a, 0, none⟩), .int .i64 k, .int .i64 q, x] w fun e w' => e = .returned (.int .i64 0) ∧ Mem w0 w' (arena p { s with D := put s.D (k * 64 + q) bs }) l := by
  obtain ⟨xb, xc, rfl⟩ := (hB w hM).len
  have t1 : decide ((q : Int) < 0) = false := decide_eq_false (by omega)
  have t2 : decide ((q : Int) > 64) = false := decide_eq_false (by omega)
  have t3 : decide ((bs.length : Int) > 64 - q) = false := decide_eq_false (by omega)
  go_enter Try.func18, Try.ntmps18
  go_wp2_with (first
    | (go_at_call 30; (with_reducible refine (there_yes hM k h1 h2 h3).mono ?_); rintro e w3 ⟨rfl, hM1⟩; clear hM; have hM := hM1.swap; clear hM1; unfold arena at hM)
    | ((with_reducible refine wpl ?_); apply al_box (hM := hM); rfl; (first | exact want_none rfl | exact want_some rfl rfl rfl rfl); (first | (focus (go_simp; done)) | (focus (go_simp; rfl))); intro gb w1 hM1; clear hM; dsimp only [Value.cells] at hM1; have hM := hM1; clear hM1; simp only [Act.put, List.setIfInBounds_toArray, List.set_cons_zero, List.set_cons_succ])
    | ((with_reducible refine wpl ?_); apply ld_row (hM := hM); rfl; (first | exact want_none rfl | exact want_some rfl rfl rfl rfl); rfl; (first | exact .head _ _ | exact .tail (.head _ _) | exact .tail (.tail (.head _ _)) | exact .tail (.tail (.tail (.head _ _)))); (first | exact row56 | exact row74); simp only [Act.put, List.setIfInBounds_toArray, List.set_cons_zero, List.set_cons_succ])
    | ((with_reducible refine wpl ?_); apply st_row (hM := hM); rfl; (first | exact want_none rfl | exact want_some rfl rfl rfl rfl); rfl; (first | (focus (go_simp; done)) | (focus (go_simp; rfl))); (first | exact .head _ _ | exact .tail (.head _ _) | exact .tail (.tail (.head _ _)) | exact .tail (.tail (.tail (.head _ _)))); rfl; rfl; (first | exact row56 | exact row74); intro w1 hM1; clear hM; (try simp only [List.setIfInBounds_toArray, List.set_cons_zero, List.set_cons_succ] at hM1); (try rw [tab_setInt] at hM1);  have hM := hM1; clear hM1; simp only [Act.put, List.setIfInBounds_toArray, List.set_cons_zero, List.set_cons_succ])
    | ((with_reducible refine wpl ?_); apply ld_one (hM := hM); rfl; (first | exact want_none rfl | exact want_some rfl rfl rfl rfl); rfl; (first | exact .head _ _ | exact .tail (.head _ _) | exact .tail (.tail (.head _ _)) | exact .tail (.tail (.tail (.head _ _)))); (first | (focus (simp only [List.getElem?_toArray, List.getElem?_cons_zero, List.getElem?_cons_succ]; rfl)) | exact tab_get (by omega) | rfl); (first | exact one3 | exact one5 | exact one39 | exact one72 | exact one25 | exact one22); simp only [Act.put, List.setIfInBounds_toArray, List.set_cons_zero, List.set_cons_succ])
    | ((with_reducible refine wpl ?_); apply st_cell (hM := hM); rfl; (first | exact want_none rfl | exact want_some rfl rfl rfl rfl); rfl; (first | (focus (go_simp; done)) | (focus (go_simp; rfl))); (first | exact .head _ _ | exact .tail (.head _ _) | exact .tail (.tail (.head _ _)) | exact .tail (.tail (.tail (.head _ _)))); (first | (focus (simp; done)) | (focus (rw [tab_size]; omega))); rfl; (first | exact one3 | exact one5 | exact one39 | exact one72 | exact one25 | exact one22); intro w1 hM1; clear hM; (try simp only [List.setIfInBounds_toArray, List.set_cons_zero, List.set_cons_succ] at hM1); (try rw [tab_setInt] at hM1);  have hM := hM1; clear hM1; simp only [Act.put, List.setIfInBounds_toArray, List.set_cons_zero, List.set_cons_succ])
    | ((with_reducible refine wpl ?_); apply sl_arr_l q; rfl; (first | exact want_none rfl | exact want_some rfl rfl rfl rfl); exact und56; exact size5; rfl; rfl; rfl; omega; simp only [Act.put, List.setIfInBounds_toArray, List.set_cons_zero, List.set_cons_succ])
    | ((with_reducible refine wpl ?_); apply cp_own (hM := hM); rfl; (first | exact want_none rfl | exact want_some rfl rfl rfl rfl); exact und22; exact size5; rfl; (first | exact .head _ _ | exact .tail (.head _ _) | exact .tail (.tail (.head _ _)) | exact .tail (.tail (.tail (.head _ _)))); exact hB _ hM.swap; omega; (rw [tab_size]; unfold skp; (split <;> omega)); intro w1 hM1; clear hM; rw [lay_part h1 hq hl] at hM1; have hM := hM1; clear hM1; simp only [Act.put, List.setIfInBounds_toArray, List.set_cons_zero, List.set_cons_succ]))
  go_ret
  exact ⟨rfl, (hM.sub (by (apply Sub.cons; (first | exact .head _ _ | exact .tail (.head _ _) | exact .tail (.tail (.head _ _)) | exact .tail (.tail (.tail (.head _ _))))); (apply Sub.cons; (first | exact .head _ _ | exact .tail (.head _ _) | exact .tail (.tail (.head _ _)) | exact .tail (.tail (.tail (.head _ _))))); (apply Sub.cons; (first | exact .head _ _ | exact .tail (.head _ _) | exact .tail (.tail (.head _ _)) | exact .tail (.tail (.tail (.head _ _))))); exact Sub.same _)).swap⟩

set_option maxHeartbeats 1000000 in
theorem write_no (hM : Mem w0 w (arena p s) l) (id : Int) (hn : Hid (¬ Held p s id)) (h3 : p.n ≤ 16384) (q : Int) (xb : Option Addr) (xn xc : Nat) :
    Calls Try.prog 18 #[.pointer (some ⟨p.a, 0, none⟩), .int .i64 id, .int .i64 q, .slice xb xn xc] w fun e w' => e = .returned (.int .i64 4) ∧ Mem w0 w' (arena p s) l := by
  go_enter Try.func18, Try.ntmps18
  go_wp2_with (first
    | (go_at_call 30; (with_reducible refine (there_no hM id hn h3).mono ?_); rintro e w3 ⟨rfl, hM1⟩; clear hM; have hM := hM1; clear hM1))
  go_ret
  exact ⟨rfl, hM⟩

set_option maxHeartbeats 1000000 in
theorem write_bad_a (hM : Mem w0 w (arena p s) l) (k : Nat) (h1 : k < p.n) (h2 : decide (0 < s.H k) = true) (h3 : p.n ≤ 16384) (q : Int) (xb : Option Addr) (xn xc : Nat) (t1 : decide (q < 0) = true) :
    Calls Try.prog 18 #[.pointer (some ⟨p.a, 0, none⟩), .int .i64 k, .int .i64 q, .slice xb xn xc] w fun e w' => e = .returned (.int .i64 1) ∧ Mem w0 w' (arena p s) l := by
  go_enter Try.func18, Try.ntmps18
  go_wp2_with (first
    | (go_at_call 30; (with_reducible refine (there_yes hM k h1 h2 h3).mono ?_); rintro e w3 ⟨rfl, hM1⟩; clear hM; have hM := hM1; clear hM1))
  go_ret
  exact ⟨rfl, hM⟩

set_option maxHeartbeats 1000000 in
theorem write_bad_b (hM : Mem w0 w (arena p s) l) (k : Nat) (h1 : k < p.n) (h2 : decide (0 < s.H k) = true) (h3 : p.n ≤ 16384) (q : Int) (xb : Option Addr) (xn xc : Nat) (t1 : decide (q < 0) = false) (t2 : decide (q > 64) = true) :
    Calls Try.prog 18 #[.pointer (some ⟨p.a, 0, none⟩), .int .i64 k, .int .i64 q, .slice xb xn xc] w fun e w' => e = .returned (.int .i64 1) ∧ Mem w0 w' (arena p s) l := by
  go_enter Try.func18, Try.ntmps18
  go_wp2_with (first
    | (go_at_call 30; (with_reducible refine (there_yes hM k h1 h2 h3).mono ?_); rintro e w3 ⟨rfl, hM1⟩; clear hM; have hM := hM1; clear hM1))
  go_ret
  exact ⟨rfl, hM⟩

set_option maxHeartbeats 1000000 in
theorem write_bad_c (hM : Mem w0 w (arena p s) l) (k : Nat) (h1 : k < p.n) (h2 : decide (0 < s.H k) = true) (h3 : p.n ≤ 16384) (q : Int) (xb : Option Addr) (xn xc : Nat) (t1 : decide (q < 0) = false) (t2 : decide (q > 64) = false) (t3 : decide ((xn : Int) > 64 - q) = true) (t4 : 0 ≤ q) (t5 : q ≤ 64) :
    Calls Try.prog 18 #[.pointer (some ⟨p.a, 0, none⟩), .int .i64 k, .int .i64 q, .slice xb xn xc] w fun e w' => e = .returned (.int .i64 1) ∧ Mem w0 w' (arena p s) l := by
  go_enter Try.func18, Try.ntmps18
  go_wp2_with (first
    | (go_at_call 30; (with_reducible refine (there_yes hM k h1 h2 h3).mono ?_); rintro e w3 ⟨rfl, hM1⟩; clear hM; have hM := hM1; clear hM1))
  go_ret
  exact ⟨rfl, hM⟩

theorem write_bad (hM : Mem w0 w (arena p s) l) (k : Nat) (h1 : k < p.n) (h2 : decide (0 < s.H k) = true) (h3 : p.n ≤ 16384) (q : Int) (xb : Option Addr) (xn xc : Nat) (hb : q < 0 ∨ 64 < q ∨ 64 - q < xn) :
    Calls Try.prog 18 #[.pointer (some ⟨p.a, 0, none⟩), .int .i64 k, .int .i64 q, .slice xb xn xc] w fun e w' => e = .returned (.int .i64 1) ∧ Mem w0 w' (arena p s) l := by
  by_cases c1 : q < 0
  · exact write_bad_a hM k h1 h2 h3 q xb xn xc (decide_eq_true c1)
  by_cases c2 : 64 < q
  · exact write_bad_b hM k h1 h2 h3 q xb xn xc (decide_eq_false c1) (decide_eq_true c2)
  exact write_bad_c hM k h1 h2 h3 q xb xn xc (decide_eq_false c1) (decide_eq_false c2) (decide_eq_true (by omega)) (by omega) (by omega)

set_option maxHeartbeats 1000000 in
theorem read_no (hM : Mem w0 w (arena p s) l) (id : Int) (hn : Hid (¬ Held p s id)) (h3 : p.n ≤ 16384) (q n : Int) :
    Calls Try.prog 17 #[.pointer (some ⟨p.a, 0, none⟩), .int .i64 id, .int .i64 q, .int .i64 n] w fun e w' => e = .returned (.tuple #[.slice none 0 0, .int .i64 4]) ∧ Mem w0 w' (arena p s) l := by
  go_enter Try.func17, Try.ntmps17
  go_wp2_with (first
    | (go_at_call 30; (with_reducible refine (there_no hM id hn h3).mono ?_); rintro e w3 ⟨rfl, hM1⟩; clear hM; have hM := hM1; clear hM1))
  go_ret2
  exact ⟨rfl, hM⟩

set_option maxHeartbeats 1000000 in
theorem read_bad_a (hM : Mem w0 w (arena p s) l) (k : Nat) (h1 : k < p.n) (h2 : decide (0 < s.H k) = true) (h3 : p.n ≤ 16384) (q n : Int) (t1 : decide (q < 0) = true) :
    Calls Try.prog 17 #[.pointer (some ⟨p.a, 0, none⟩), .int .i64 k, .int .i64 q, .int .i64 n] w fun e w' => e = .returned (.tuple #[.slice none 0 0, .int .i64 1]) ∧ Mem w0 w' (arena p s) l := by
  go_enter Try.func17, Try.ntmps17
  go_wp2_with (first
    | (go_at_call 30; (with_reducible refine (there_yes hM k h1 h2 h3).mono ?_); rintro e w3 ⟨rfl, hM1⟩; clear hM; have hM := hM1; clear hM1))
  go_ret2
  exact ⟨rfl, hM⟩

set_option maxHeartbeats 1000000 in
theorem read_bad_b (hM : Mem w0 w (arena p s) l) (k : Nat) (h1 : k < p.n) (h2 : decide (0 < s.H k) = true) (h3 : p.n ≤ 16384) (q n : Int) (t1 : decide (q < 0) = false) (t2 : decide (q > 64) = true) :
    Calls Try.prog 17 #[.pointer (some ⟨p.a, 0, none⟩), .int .i64 k, .int .i64 q, .int .i64 n] w fun e w' => e = .returned (.tuple #[.slice none 0 0, .int .i64 1]) ∧ Mem w0 w' (arena p s) l := by
  go_enter Try.func17, Try.ntmps17
  go_wp2_with (first
    | (go_at_call 30; (with_reducible refine (there_yes hM k h1 h2 h3).mono ?_); rintro e w3 ⟨rfl, hM1⟩; clear hM; have hM := hM1; clear hM1))
  go_ret2
  exact ⟨rfl, hM⟩

set_option maxHeartbeats 1000000 in
theorem read_bad_c (hM : Mem w0 w (arena p s) l) (k : Nat) (h1 : k < p.n) (h2 : decide (0 < s.H k) = true) (h3 : p.n ≤ 16384) (q n : Int) (t1 : decide (q < 0) = false) (t2 : decide (q > 64) = false) (t3 : decide (n < 0) = true) :
    Calls Try.prog 17 #[.pointer (some ⟨p.a, 0, none⟩), .int .i64 k, .int .i64 q, .int .i64 n] w fun e w' => e = .returned (.tuple #[.slice none 0 0, .int .i64 1]) ∧ Mem w0 w' (arena p s) l := by
  go_enter Try.func17, Try.ntmps17
  go_wp2_with (first
    | (go_at_call 30; (with_reducible refine (there_yes hM k h1 h2 h3).mono ?_); rintro e w3 ⟨rfl, hM1⟩; clear hM; have hM := hM1; clear hM1))
  go_ret2
  exact ⟨rfl, hM⟩

set_option maxHeartbeats 1000000 in
theorem read_bad_d (hM : Mem w0 w (arena p s) l) (k : Nat) (h1 : k < p.n) (h2 : decide (0 < s.H k) = true) (h3 : p.n ≤ 16384) (q n : Int) (t1 : decide (q < 0) = false) (t2 : decide (q > 64) = false) (t3 : decide (n < 0) = false) (t5 : decide (n > 64 - q) = true) (t6 : 0 ≤ q) (t7 : q ≤ 64) :
    Calls Try.prog 17 #[.pointer (some ⟨p.a, 0, none⟩), .int .i64 k, .int .i64 q, .int .i64 n] w fun e w' => e = .returned (.tuple #[.slice none 0 0, .int .i64 1]) ∧ Mem w0 w' (arena p s) l := by
  go_enter Try.func17, Try.ntmps17
  go_wp2_with (first
    | (go_at_call 30; (with_reducible refine (there_yes hM k h1 h2 h3).mono ?_); rintro e w3 ⟨rfl, hM1⟩; clear hM; have hM := hM1; clear hM1))
  go_ret2
  exact ⟨rfl, hM⟩

theorem read_bad (hM : Mem w0 w (arena p s) l) (k : Nat) (h1 : k < p.n) (h2 : decide (0 < s.H k) = true) (h3 : p.n ≤ 16384) (q n : Int) (hb : q < 0 ∨ 64 < q ∨ n < 0 ∨ 64 - q < n) :
    Calls Try.prog 17 #[.pointer (some ⟨p.a, 0, none⟩), .int .i64 k, .int .i64 q, .int .i64 n] w fun e w' => e = .returned (.tuple #[.slice none 0 0, .int .i64 1]) ∧ Mem w0 w' (arena p s) l := by
  by_cases c1 : q < 0
  · exact read_bad_a hM k h1 h2 h3 q n (decide_eq_true c1)
  by_cases c2 : 64 < q
  · exact read_bad_b hM k h1 h2 h3 q n (decide_eq_false c1) (decide_eq_true c2)
  by_cases c3 : n < 0
  · exact read_bad_c hM k h1 h2 h3 q n (decide_eq_false c1) (decide_eq_false c2) (decide_eq_true c3)
  exact read_bad_d hM k h1 h2 h3 q n (decide_eq_false c1) (decide_eq_false c2) (decide_eq_false c3) (decide_eq_true (by omega)) (by omega) (by omega)

set_option maxHeartbeats 1000000 in
theorem read_ok (hM : Mem w0 w (arena p s) l) (k : Nat) (h1 : k < p.n) (h2 : decide (0 < s.H k) = true) (h3 : p.n ≤ 16384) (q n : Nat) (hq : q ≤ 64) (hn : n ≤ 64 - q) :
    Calls Try.prog 17 #[.pointer (some ⟨p.a, 0, none⟩), .int .i64 k, .int .i64 q, .int .i64 n] w fun e w' => ∃ g c cs, e = .returned (.tuple #[.slice (some ⟨g, 0, none⟩) n c, .int .i64 0]) ∧ Mem w0 w' (arena p s) (⟨g, cs, 5, (0, 0)⟩ :: l) ∧ cs.size = c ∧ n ≤ c ∧ ∀ j, j < n → cs[j]? = some (u8 (s.D (k * 64 + q + j))) := by
  have t1 : decide ((q : Int) < 0) = false := decide_eq_false (by omega)
  have t2 : decide ((q : Int) > 64) = false := decide_eq_false (by omega)
  have t3 : decide ((n : Int) < 0) = false := decide_eq_false (by omega)
  have t5 : decide ((n : Int) > 64 - q) = false := decide_eq_false (by omega)
  go_enter Try.func17, Try.ntmps17
  go_wp2_with (first
    | (go_at_call 30; (with_reducible refine (there_yes hM k h1 h2 h3).mono ?_); rintro e w3 ⟨rfl, hM1⟩; clear hM; have hM := hM1.swap; clear hM1; unfold arena at hM)
    | ((with_reducible refine wpl ?_); apply al_box (hM := hM); rfl; (first | exact want_none rfl | exact want_some rfl rfl rfl rfl); (first | (focus (go_simp; done)) | (focus (go_simp; rfl))); intro gb w1 hM1; clear hM; dsimp only [Value.cells] at hM1; have hM := hM1; clear hM1; simp only [Act.put, List.setIfInBounds_toArray, List.set_cons_zero, List.set_cons_succ])
    | ((with_reducible refine wpl ?_); apply ld_row (hM := hM); rfl; (first | exact want_none rfl | exact want_some rfl rfl rfl rfl); rfl; (first | exact .head _ _ | exact .tail (.head _ _) | exact .tail (.tail (.head _ _)) | exact .tail (.tail (.tail (.head _ _)))); (first | exact row56 | exact row74); simp only [Act.put, List.setIfInBounds_toArray, List.set_cons_zero, List.set_cons_succ])
    | ((with_reducible refine wpl ?_); apply st_row (hM := hM); rfl; (first | exact want_none rfl | exact want_some rfl rfl rfl rfl); rfl; (first | (focus (go_simp; done)) | (focus (go_simp; rfl))); (first | exact .head _ _ | exact .tail (.head _ _) | exact .tail (.tail (.head _ _)) | exact .tail (.tail (.tail (.head _ _)))); rfl; rfl; (first | exact row56 | exact row74); intro w1 hM1; clear hM; (try simp only [List.setIfInBounds_toArray, List.set_cons_zero, List.set_cons_succ] at hM1); (try rw [tab_setInt] at hM1);  have hM := hM1; clear hM1; simp only [Act.put, List.setIfInBounds_toArray, List.set_cons_zero, List.set_cons_succ])
    | ((with_reducible refine wpl ?_); apply ld_one (hM := hM); rfl; (first | exact want_none rfl | exact want_some rfl rfl rfl rfl); rfl; (first | exact .head _ _ | exact .tail (.head _ _) | exact .tail (.tail (.head _ _)) | exact .tail (.tail (.tail (.head _ _)))); (first | (focus (simp only [List.getElem?_toArray, List.getElem?_cons_zero, List.getElem?_cons_succ]; rfl)) | exact tab_get (by omega) | rfl); (first | exact one3 | exact one5 | exact one39 | exact one72 | exact one25 | exact one22); simp only [Act.put, List.setIfInBounds_toArray, List.set_cons_zero, List.set_cons_succ])
    | ((with_reducible refine wpl ?_); apply st_cell (hM := hM); rfl; (first | exact want_none rfl | exact want_some rfl rfl rfl rfl); rfl; (first | (focus (go_simp; done)) | (focus (go_simp; rfl))); (first | exact .head _ _ | exact .tail (.head _ _) | exact .tail (.tail (.head _ _)) | exact .tail (.tail (.tail (.head _ _)))); (first | (focus (simp; done)) | (focus (rw [tab_size]; omega))); rfl; (first | exact one3 | exact one5 | exact one39 | exact one72 | exact one25 | exact one22); intro w1 hM1; clear hM; (try simp only [List.setIfInBounds_toArray, List.set_cons_zero, List.set_cons_succ] at hM1); (try rw [tab_setInt] at hM1);  have hM := hM1; clear hM1; simp only [Act.put, List.setIfInBounds_toArray, List.set_cons_zero, List.set_cons_succ])
    | ((with_reducible refine wpl ?_); apply sl_arr q (q + n); rfl; (first | exact want_none rfl | exact want_some rfl rfl rfl rfl); exact und56; exact size5; rfl; rfl; rfl; rfl; omega; omega; omega; rw [Nat.add_sub_cancel_left]; simp only [Act.put, List.setIfInBounds_toArray, List.set_cons_zero, List.set_cons_succ])
    | ((with_reducible refine wpl ?_); apply al_none (hM := hM) (ht := sl22); rfl; (first | exact want_none rfl | exact want_some rfl rfl rfl rfl); intro gn w1 hM1; clear hM; have hM := hM1; clear hM1; simp only [Act.put, List.setIfInBounds_toArray, List.set_cons_zero, List.set_cons_succ])
    | ((with_reducible refine wpl ?_); apply ap_own (hM := hM) (ht := sl22) (n := n); rfl; (first | exact want_none rfl | exact want_some rfl rfl rfl rfl); rfl; rfl; (first | exact .head _ _ | exact .tail (.head _ _) | exact .tail (.tail (.head _ _)) | exact .tail (.tail (.tail (.head _ _))) | exact .tail (.tail (.tail (.tail (.head _ _)))) | exact .tail (.tail (.tail (.tail (.tail (.head _ _)))))); rfl; omega; (have hx := src_part (n := n) (c := 64 - q) hM (.tail (.tail (.head _ _))) h1 hq hn; exact hx); omega; omega; intro g' cap' cs' w1 hM1 hon hcap hsame; clear hM; have hM := hM1; clear hM1; simp only [Act.put, List.setIfInBounds_toArray, List.set_cons_zero, List.set_cons_succ]))
  simp only [Nat.zero_add, Nat.zero_mul, Nat.mul_one] at hon hcap hM ⊢
  go_ret2
  refine ⟨g', cap', cs', rfl, hM.over, hon.size, hcap, fun j hj => ?_⟩
  have h := hon.new j (by rw [List.length_map, List.length_range]; exact hj)
  rw [Nat.zero_add, List.getElem?_map, List.getElem?_range hj] at h
  exact h

set_option maxHeartbeats 1000000 in
theorem drop_last (hM : Mem w0 w (arena p s) l) (b : Nat) (hb : p.bf = some b) (k : Nat) (h1 : k < p.n) (h2 : decide (0 < s.H k) = true) (h3 : p.n ≤ 16384) (h4 : (s.H k - 1 == 0) = true) (h5 : 1 ≤ s.H k) (h6 : s.H k ≤ 1073741824) (h8 : s.m < p.cap) :
    Calls Try.prog 20 #[.pointer (some ⟨p.a, 0, none⟩), .int .i64 k] w fun e w' => e = .returned (.int .i64 0) ∧ Mem w0 w' (arena p { s with H := up1 s.H k (s.H k - 1), F := put s.F s.m [(k : Int)], m := s.m + 1 }) l := by
  obtain ⟨a, bd, bh, bf, n, cap⟩ := p
  simp only at hb
  subst hb
  obtain ⟨D, H, F, m⟩ := s
  simp only at *
  have h7 : (up1 H k (H k - 1) k == 0) = true := by rw [up1_self]; exact h4
  go_enter Try.func20, Try.ntmps20
  go_wp2_with (first
    | (go_at_call 30; (with_reducible refine (there_yes hM k h1 h2 h3).mono ?_); rintro e w3 ⟨rfl, hM1⟩; clear hM; have hM := hM1.swap; clear hM1; unfold arena fsl fbl at hM; simp only at hM)
    | ((with_reducible refine wpl ?_); apply al_box (hM := hM); rfl; (first | exact want_none rfl | exact want_some rfl rfl rfl rfl); (first | (focus (go_simp; done)) | (focus (go_simp; rfl))); intro gb w1 hM1; clear hM; dsimp only [Value.cells] at hM1; have hM := hM1; clear hM1; simp only [Act.put, List.setIfInBounds_toArray, List.set_cons_zero, List.set_cons_succ])
    | ((with_reducible refine wpl ?_); apply ld_row (hM := hM); rfl; (first | exact want_none rfl | exact want_some rfl rfl rfl rfl); rfl; (first | exact .head _ _ | exact .tail (.head _ _) | exact .tail (.tail (.head _ _)) | exact .tail (.tail (.tail (.head _ _))) | exact .tail (.tail (.tail (.tail (.head _ _)))) | exact .tail (.tail (.tail (.tail (.tail (.head _ _)))))); (first | exact row56 | exact row74); simp only [Act.put, List.setIfInBounds_toArray, List.set_cons_zero, List.set_cons_succ])
    | ((with_reducible refine wpl ?_); apply st_row (hM := hM); rfl; (first | exact want_none rfl | exact want_some rfl rfl rfl rfl); rfl; (first | (focus (go_simp; done)) | (focus (go_simp; rfl))); (first | exact .head _ _ | exact .tail (.head _ _) | exact .tail (.tail (.head _ _)) | exact .tail (.tail (.tail (.head _ _))) | exact .tail (.tail (.tail (.tail (.head _ _)))) | exact .tail (.tail (.tail (.tail (.tail (.head _ _)))))); rfl; rfl; (first | exact row56 | exact row74); intro w1 hM1; clear hM; (try simp only [List.setIfInBounds_toArray, List.set_cons_zero, List.set_cons_succ] at hM1); (try rw [tab_setInt] at hM1);  have hM := hM1; clear hM1; simp only [Act.put, List.setIfInBounds_toArray, List.set_cons_zero, List.set_cons_succ])
    | ((with_reducible refine wpl ?_); apply ld_one (hM := hM); rfl; (first | exact want_none rfl | exact want_some rfl rfl rfl rfl); rfl; (first | exact .head _ _ | exact .tail (.head _ _) | exact .tail (.tail (.head _ _)) | exact .tail (.tail (.tail (.head _ _))) | exact .tail (.tail (.tail (.tail (.head _ _)))) | exact .tail (.tail (.tail (.tail (.tail (.head _ _)))))); (first | (focus (simp only [List.getElem?_toArray, List.getElem?_cons_zero, List.getElem?_cons_succ]; rfl)) | exact tab_get (by omega) | rfl); (first | exact one3 | exact one5 | exact one39 | exact one72 | exact one25 | exact one22); simp only [Act.put, List.setIfInBounds_toArray, List.set_cons_zero, List.set_cons_succ])
    | ((with_reducible refine wpl ?_); apply st_cell (hM := hM); rfl; (first | exact want_none rfl | exact want_some rfl rfl rfl rfl); rfl; (first | (focus (go_simp; done)) | (focus (go_simp; rfl))); (first | exact .head _ _ | exact .tail (.head _ _) | exact .tail (.tail (.head _ _)) | exact .tail (.tail (.tail (.head _ _))) | exact .tail (.tail (.tail (.tail (.head _ _)))) | exact .tail (.tail (.tail (.tail (.tail (.head _ _)))))); (first | (focus (simp; done)) | (focus (rw [tab_size]; omega))); rfl; (first | exact one3 | exact one5 | exact one39 | exact one72 | exact one25 | exact one22); intro w1 hM1; clear hM; (try simp only [List.setIfInBounds_toArray, List.set_cons_zero, List.set_cons_succ] at hM1); (try rw [tab_setInt] at hM1);  have hM := hM1; clear hM1; simp only [Act.put, List.setIfInBounds_toArray, List.set_cons_zero, List.set_cons_succ])
    | ((with_reducible refine wpl ?_); apply al_one (hM := hM) (ht := sl39); rfl; (first | exact want_none rfl | exact want_some rfl rfl rfl rfl); (first | (focus (go_simp; done)) | (focus (go_simp; rfl))); rfl; intro gn w1 hM1; clear hM; have hM := hM1; clear hM1; simp only [Act.put, List.setIfInBounds_toArray, List.set_cons_zero, List.set_cons_succ])
    | ((with_reducible refine wpl ?_); apply ap_fit (hM := hM) (ht := sl39) (n := 1) (k := m) (cap := cap) (g := b); rfl; (first | exact want_none rfl | exact want_some rfl rfl rfl rfl); rfl; (first | exact .head _ _ | exact .tail (.head _ _) | exact .tail (.tail (.head _ _)) | exact .tail (.tail (.tail (.head _ _))) | exact .tail (.tail (.tail (.tail (.head _ _)))) | exact .tail (.tail (.tail (.tail (.tail (.head _ _)))))); (rw [tab_size, Nat.mul_one]); exact hM.src1 (.head _ _) rfl und39; omega; intro w1 hM1; clear hM; rw [Nat.mul_one, lay_int (by omega)] at hM1; have hM := hM1; clear hM1; simp only [Act.put, List.setIfInBounds_toArray, List.set_cons_zero, List.set_cons_succ]))
  go_ret
  exact ⟨rfl, (hM.sub (by (apply Sub.cons; (first | exact .head _ _ | exact .tail (.head _ _) | exact .tail (.tail (.head _ _)) | exact .tail (.tail (.tail (.head _ _))) | exact .tail (.tail (.tail (.tail (.head _ _)))) | exact .tail (.tail (.tail (.tail (.tail (.head _ _))))))); (apply Sub.cons; (first | exact .head _ _ | exact .tail (.head _ _) | exact .tail (.tail (.head _ _)) | exact .tail (.tail (.tail (.head _ _))) | exact .tail (.tail (.tail (.tail (.head _ _)))) | exact .tail (.tail (.tail (.tail (.tail (.head _ _))))))); (apply Sub.cons; (first | exact .head _ _ | exact .tail (.head _ _) | exact .tail (.tail (.head _ _)) | exact .tail (.tail (.tail (.head _ _))) | exact .tail (.tail (.tail (.tail (.head _ _)))) | exact .tail (.tail (.tail (.tail (.tail (.head _ _))))))); (apply Sub.cons; (first | exact .head _ _ | exact .tail (.head _ _) | exact .tail (.tail (.head _ _)) | exact .tail (.tail (.tail (.head _ _))) | exact .tail (.tail (.tail (.tail (.head _ _)))) | exact .tail (.tail (.tail (.tail (.tail (.head _ _))))))); exact Sub.nil _)).swap⟩

set_option maxHeartbeats 1000000 in
theorem take_full_nil (hM : Mem w0 w (arena p s) l) (hb : p.bf = none) :
    Calls Try.prog 16 #[.pointer (some ⟨p.a, 0, none⟩)] w fun e w' => e = .returned (.tuple #[.int .i64 0, .int .i64 3]) ∧ Mem w0 w' (arena p s) l := by
  obtain ⟨a, bd, bh, bf, n, cap⟩ := p
  simp only at hb
  subst hb
  replace hM := hM.swap
  unfold arena fsl at hM
  simp only at hM
  go_enter Try.func16, Try.ntmps16
  go_wp2_with (first
    | ((with_reducible refine wpl ?_); apply al_box (hM := hM); rfl; (first | exact want_none rfl | exact want_some rfl rfl rfl rfl); (first | (focus (go_simp; done)) | (focus (go_simp; rfl))); intro gb w1 hM1; clear hM; dsimp only [Value.cells] at hM1; have hM := hM1; clear hM1; simp only [Act.put, List.setIfInBounds_toArray, List.set_cons_zero, List.set_cons_succ])
    | ((with_reducible refine wpl ?_); apply ld_row (hM := hM); rfl; (first | exact want_none rfl | exact want_some rfl rfl rfl rfl); rfl; (first | exact .head _ _ | exact .tail (.head _ _) | exact .tail (.tail (.head _ _)) | exact .tail (.tail (.tail (.head _ _))) | exact .tail (.tail (.tail (.tail (.head _ _)))) | exact .tail (.tail (.tail (.tail (.tail (.head _ _)))))); (first | exact row56 | exact row74); simp only [Act.put, List.setIfInBounds_toArray, List.set_cons_zero, List.set_cons_succ])
    | ((with_reducible refine wpl ?_); apply st_row (hM := hM); rfl; (first | exact want_none rfl | exact want_some rfl rfl rfl rfl); rfl; (first | (focus (go_simp; done)) | (focus (go_simp; rfl))); (first | exact .head _ _ | exact .tail (.head _ _) | exact .tail (.tail (.head _ _)) | exact .tail (.tail (.tail (.head _ _))) | exact .tail (.tail (.tail (.tail (.head _ _)))) | exact .tail (.tail (.tail (.tail (.tail (.head _ _)))))); rfl; rfl; (first | exact row56 | exact row74); intro w1 hM1; clear hM; (try simp only [List.setIfInBounds_toArray, List.set_cons_zero, List.set_cons_succ] at hM1); (try rw [tab_setInt] at hM1);  have hM := hM1; clear hM1; simp only [Act.put, List.setIfInBounds_toArray, List.set_cons_zero, List.set_cons_succ])
    | ((with_reducible refine wpl ?_); apply ld_one (hM := hM); rfl; (first | exact want_none rfl | exact want_some rfl rfl rfl rfl); rfl; (first | exact .head _ _ | exact .tail (.head _ _) | exact .tail (.tail (.head _ _)) | exact .tail (.tail (.tail (.head _ _))) | exact .tail (.tail (.tail (.tail (.head _ _)))) | exact .tail (.tail (.tail (.tail (.tail (.head _ _)))))); (first | (focus (simp only [List.getElem?_toArray, List.getElem?_cons_zero, List.getElem?_cons_succ]; rfl)) | exact tab_get (by omega) | rfl); (first | exact one3 | exact one5 | exact one39 | exact one72 | exact one25 | exact one22); simp only [Act.put, List.setIfInBounds_toArray, List.set_cons_zero, List.set_cons_succ])
    | ((with_reducible refine wpl ?_); apply st_cell (hM := hM); rfl; (first | exact want_none rfl | exact want_some rfl rfl rfl rfl); rfl; (first | (focus (go_simp; done)) | (focus (go_simp; rfl))); (first | exact .head _ _ | exact .tail (.head _ _) | exact .tail (.tail (.head _ _)) | exact .tail (.tail (.tail (.head _ _))) | exact .tail (.tail (.tail (.tail (.head _ _)))) | exact .tail (.tail (.tail (.tail (.tail (.head _ _)))))); (first | (focus (simp; done)) | (focus (rw [tab_size]; omega))); rfl; (first | exact one3 | exact one5 | exact one39 | exact one72 | exact one25 | exact one22); intro w1 hM1; clear hM; (try simp only [List.setIfInBounds_toArray, List.set_cons_zero, List.set_cons_succ] at hM1); (try rw [tab_setInt] at hM1);  have hM := hM1; clear hM1; simp only [Act.put, List.setIfInBounds_toArray, List.set_cons_zero, List.set_cons_succ]))
  go_ret2
  exact ⟨rfl, hM.swap⟩

set_option maxHeartbeats 1000000 in
theorem take_full (hM : Mem w0 w (arena p s) l) (h0 : s.m = 0) :
    Calls Try.prog 16 #[.pointer (some ⟨p.a, 0, none⟩)] w fun e w' => e = .returned (.tuple #[.int .i64 0, .int .i64 3]) ∧ Mem w0 w' (arena p s) l := by
  by_cases hb : p.bf = none
  · exact take_full_nil hM hb
  obtain ⟨a, bd, bh, bf, n, cap⟩ := p
  simp only at hb
  obtain ⟨b, rfl⟩ := Option.ne_none_iff_exists'.1 hb
  obtain ⟨D, H, F, m⟩ := s
  simp only at h0
  subst h0
  replace hM := hM.swap
  unfold arena fsl at hM
  simp only at hM
  go_enter Try.func16, Try.ntmps16
  go_wp2_with (first
    | ((with_reducible refine wpl ?_); apply al_box (hM := hM); rfl; (first | exact want_none rfl | exact want_some rfl rfl rfl rfl); (first | (focus (go_simp; done)) | (focus (go_simp; rfl))); intro gb w1 hM1; clear hM; dsimp only [Value.cells] at hM1; have hM := hM1; clear hM1; simp only [Act.put, List.setIfInBounds_toArray, List.set_cons_zero, List.set_cons_succ])
    | ((with_reducible refine wpl ?_); apply ld_row (hM := hM); rfl; (first | exact want_none rfl | exact want_some rfl rfl rfl rfl); rfl; (first | exact .head _ _ | exact .tail (.head _ _) | exact .tail (.tail (.head _ _)) | exact .tail (.tail (.tail (.head _ _))) | exact .tail (.tail (.tail (.tail (.head _ _)))) | exact .tail (.tail (.tail (.tail (.tail (.head _ _)))))); (first | exact row56 | exact row74); simp only [Act.put, List.setIfInBounds_toArray, List.set_cons_zero, List.set_cons_succ])
    | ((with_reducible refine wpl ?_); apply st_row (hM := hM); rfl; (first | exact want_none rfl | exact want_some rfl rfl rfl rfl); rfl; (first | (focus (go_simp; done)) | (focus (go_simp; rfl))); (first | exact .head _ _ | exact .tail (.head _ _) | exact .tail (.tail (.head _ _)) | exact .tail (.tail (.tail (.head _ _))) | exact .tail (.tail (.tail (.tail (.head _ _)))) | exact .tail (.tail (.tail (.tail (.tail (.head _ _)))))); rfl; rfl; (first | exact row56 | exact row74); intro w1 hM1; clear hM; (try simp only [List.setIfInBounds_toArray, List.set_cons_zero, List.set_cons_succ] at hM1); (try rw [tab_setInt] at hM1);  have hM := hM1; clear hM1; simp only [Act.put, List.setIfInBounds_toArray, List.set_cons_zero, List.set_cons_succ])
    | ((with_reducible refine wpl ?_); apply ld_one (hM := hM); rfl; (first | exact want_none rfl | exact want_some rfl rfl rfl rfl); rfl; (first | exact .head _ _ | exact .tail (.head _ _) | exact .tail (.tail (.head _ _)) | exact .tail (.tail (.tail (.head _ _))) | exact .tail (.tail (.tail (.tail (.head _ _)))) | exact .tail (.tail (.tail (.tail (.tail (.head _ _)))))); (first | (focus (simp only [List.getElem?_toArray, List.getElem?_cons_zero, List.getElem?_cons_succ]; rfl)) | exact tab_get (by omega) | rfl); (first | exact one3 | exact one5 | exact one39 | exact one72 | exact one25 | exact one22); simp only [Act.put, List.setIfInBounds_toArray, List.set_cons_zero, List.set_cons_succ])
    | ((with_reducible refine wpl ?_); apply st_cell (hM := hM); rfl; (first | exact want_none rfl | exact want_some rfl rfl rfl rfl); rfl; (first | (focus (go_simp; done)) | (focus (go_simp; rfl))); (first | exact .head _ _ | exact .tail (.head _ _) | exact .tail (.tail (.head _ _)) | exact .tail (.tail (.tail (.head _ _))) | exact .tail (.tail (.tail (.tail (.head _ _)))) | exact .tail (.tail (.tail (.tail (.tail (.head _ _)))))); (first | (focus (simp; done)) | (focus (rw [tab_size]; omega))); rfl; (first | exact one3 | exact one5 | exact one39 | exact one72 | exact one25 | exact one22); intro w1 hM1; clear hM; (try simp only [List.setIfInBounds_toArray, List.set_cons_zero, List.set_cons_succ] at hM1); (try rw [tab_setInt] at hM1);  have hM := hM1; clear hM1; simp only [Act.put, List.setIfInBounds_toArray, List.set_cons_zero, List.set_cons_succ]))
  go_ret2
  exact ⟨rfl, hM.swap⟩

set_option maxHeartbeats 1000000 in
theorem take_ok (hM : Mem w0 w (arena p s) l) (b : Nat) (hb : p.bf = some b) (m' : Nat) (hm : s.m = m' + 1) (k : Nat) (hF : s.F m' = k) (h1 : k < p.n) (h3 : p.n ≤ 16384) (h8 : s.m ≤ p.cap) (h9 : s.m ≤ 16384) :
    Calls Try.prog 16 #[.pointer (some ⟨p.a, 0, none⟩)] w fun e w' => e = .returned (.tuple #[.int .i64 k, .int .i64 0]) ∧ Mem w0 w' (arena p { D := put s.D (k * 64) (List.replicate 64 0), H := up1 s.H k 1, F := s.F, m := m' }) l := by
  obtain ⟨a, bd, bh, bf, n, cap⟩ := p
  simp only at hb
  subst hb
  obtain ⟨D, H, F, m⟩ := s
  simp only at *
  subst hm
  have e1 : ((m' : Int) + 1 == 0) = false := beq_eq_false_iff_ne.2 (by omega)
  replace hM := hM.swap
  unfold arena fsl fbl at hM
  simp only at hM
  go_enter Try.func16, Try.ntmps16
  go_wp2_with (first
    | ((with_reducible refine wpl ?_); apply al_box (hM := hM); rfl; (first | exact want_none rfl | exact want_some rfl rfl rfl rfl); (first | (focus (go_simp; done)) | (focus (go_simp; rfl))); intro gb w1 hM1; clear hM; dsimp only [Value.cells] at hM1; have hM := hM1; clear hM1; simp only [Act.put, List.setIfInBounds_toArray, List.set_cons_zero, List.set_cons_succ])
    | ((with_reducible refine wpl ?_); apply ld_row (hM := hM); rfl; (first | exact want_none rfl | exact want_some rfl rfl rfl rfl); rfl; (first | exact .head _ _ | exact .tail (.head _ _) | exact .tail (.tail (.head _ _)) | exact .tail (.tail (.tail (.head _ _))) | exact .tail (.tail (.tail (.tail (.head _ _)))) | exact .tail (.tail (.tail (.tail (.tail (.head _ _)))))); (first | exact row56 | exact row74); simp only [Act.put, List.setIfInBounds_toArray, List.set_cons_zero, List.set_cons_succ])
    | ((with_reducible refine wpl ?_); apply st_row (hM := hM); rfl; (first | exact want_none rfl | exact want_some rfl rfl rfl rfl); rfl; (first | (focus (go_simp; done)) | (focus (go_simp; rfl))); (first | exact .head _ _ | exact .tail (.head _ _) | exact .tail (.tail (.head _ _)) | exact .tail (.tail (.tail (.head _ _))) | exact .tail (.tail (.tail (.tail (.head _ _)))) | exact .tail (.tail (.tail (.tail (.tail (.head _ _)))))); rfl; rfl; (first | exact row56 | exact row74); intro w1 hM1; clear hM; (try simp only [List.setIfInBounds_toArray, List.set_cons_zero, List.set_cons_succ] at hM1); (try rw [tab_setInt] at hM1);  have hM := hM1; clear hM1; simp only [Act.put, List.setIfInBounds_toArray, List.set_cons_zero, List.set_cons_succ])
    | ((with_reducible refine wpl ?_); apply ld_one (hM := hM); rfl; (first | exact want_none rfl | exact want_some rfl rfl rfl rfl); rfl; (first | exact .head _ _ | exact .tail (.head _ _) | exact .tail (.tail (.head _ _)) | exact .tail (.tail (.tail (.head _ _))) | exact .tail (.tail (.tail (.tail (.head _ _)))) | exact .tail (.tail (.tail (.tail (.tail (.head _ _)))))); (first | (focus (simp only [List.getElem?_toArray, List.getElem?_cons_zero, List.getElem?_cons_succ]; rfl)) | exact tab_get (by omega) | rfl); (first | exact one3 | exact one5 | exact one39 | exact one72 | exact one25 | exact one22); simp only [Act.put, List.setIfInBounds_toArray, List.set_cons_zero, List.set_cons_succ])
    | ((with_reducible refine wpl ?_); apply st_cell (hM := hM); rfl; (first | exact want_none rfl | exact want_some rfl rfl rfl rfl); rfl; (first | (focus (go_simp; done)) | (focus (go_simp; rfl))); (first | exact .head _ _ | exact .tail (.head _ _) | exact .tail (.tail (.head _ _)) | exact .tail (.tail (.tail (.head _ _))) | exact .tail (.tail (.tail (.tail (.head _ _)))) | exact .tail (.tail (.tail (.tail (.tail (.head _ _)))))); (first | (focus (simp; done)) | (focus (rw [tab_size]; omega))); rfl; (first | exact one3 | exact one5 | exact one39 | exact one72 | exact one25 | exact one22); intro w1 hM1; clear hM; (try simp only [List.setIfInBounds_toArray, List.set_cons_zero, List.set_cons_succ] at hM1); (try rw [tab_setInt] at hM1);  have hM := hM1; clear hM1; simp only [Act.put, List.setIfInBounds_toArray, List.set_cons_zero, List.set_cons_succ]))
  haveI hne : Nonempty (MW w0 l _) := ⟨⟨_, hM⟩⟩
  refine wp_region_mem (by kernel_rfl) (by kernel_rfl) hM ?_
  repeat (first
    | go_big_quiet_skip
    | (go_big_quiet_want
       first
       | (apply q_row; rfl; rfl; (first | exact .head _ _ | exact .tail (.head _ _) | exact .tail (.tail (.head _ _)) | exact .tail (.tail (.tail (.head _ _))) | exact .tail (.tail (.tail (.tail (.head _ _)))) | exact .tail (.tail (.tail (.tail (.tail (.head _ _)))))); (first | exact row74); simp only [Act.put, List.setIfInBounds_toArray, List.set_cons_zero, List.set_cons_succ]; go_big_quiet_on)
       | (apply q_cell; rfl; rfl; (first | exact .head _ _ | exact .tail (.head _ _) | exact .tail (.tail (.head _ _)) | exact .tail (.tail (.tail (.head _ _))) | exact .tail (.tail (.tail (.tail (.head _ _)))) | exact .tail (.tail (.tail (.tail (.tail (.head _ _)))))); (first | (focus (simp only [List.getElem?_toArray, List.getElem?_cons_zero, List.getElem?_cons_succ]; rfl)) | exact tab_get (by omega) | rfl); (first | exact one39 | exact one3); simp only [Act.put, List.setIfInBounds_toArray, List.set_cons_zero, List.set_cons_succ]; go_big_quiet_on)
       | (go_big_quiet_op
          first
          | go_big_quiet_on
          | go_big_quiet_call (fail))))
  refine wpQuiet_nil ?_
  intro wq hMq
  clear hne hM
  have hM := hMq
  clear hMq
  simp only [hF]
  go_wp2_with (first
    | ((with_reducible refine wpl ?_); apply al_box (hM := hM); rfl; (first | exact want_none rfl | exact want_some rfl rfl rfl rfl); (first | (focus (go_simp; done)) | (focus (go_simp; rfl))); intro gb w1 hM1; clear hM; dsimp only [Value.cells] at hM1; have hM := hM1; clear hM1; simp only [Act.put, List.setIfInBounds_toArray, List.set_cons_zero, List.set_cons_succ])
    | ((with_reducible refine wpl ?_); apply ld_row (hM := hM); rfl; (first | exact want_none rfl | exact want_some rfl rfl rfl rfl); rfl; (first | exact .head _ _ | exact .tail (.head _ _) | exact .tail (.tail (.head _ _)) | exact .tail (.tail (.tail (.head _ _))) | exact .tail (.tail (.tail (.tail (.head _ _)))) | exact .tail (.tail (.tail (.tail (.tail (.head _ _)))))); (first | exact row56 | exact row74); simp only [Act.put, List.setIfInBounds_toArray, List.set_cons_zero, List.set_cons_succ])
    | ((with_reducible refine wpl ?_); apply st_row (hM := hM); rfl; (first | exact want_none rfl | exact want_some rfl rfl rfl rfl); rfl; (first | (focus (go_simp; done)) | (focus (go_simp; rfl))); (first | exact .head _ _ | exact .tail (.head _ _) | exact .tail (.tail (.head _ _)) | exact .tail (.tail (.tail (.head _ _))) | exact .tail (.tail (.tail (.tail (.head _ _)))) | exact .tail (.tail (.tail (.tail (.tail (.head _ _)))))); rfl; rfl; (first | exact row56 | exact row74); intro w1 hM1; clear hM; (try simp only [List.setIfInBounds_toArray, List.set_cons_zero, List.set_cons_succ] at hM1); (try rw [tab_setInt] at hM1);  have hM := hM1; clear hM1; simp only [Act.put, List.setIfInBounds_toArray, List.set_cons_zero, List.set_cons_succ])
    | ((with_reducible refine wpl ?_); apply ld_one (hM := hM); rfl; (first | exact want_none rfl | exact want_some rfl rfl rfl rfl); rfl; (first | exact .head _ _ | exact .tail (.head _ _) | exact .tail (.tail (.head _ _)) | exact .tail (.tail (.tail (.head _ _))) | exact .tail (.tail (.tail (.tail (.head _ _)))) | exact .tail (.tail (.tail (.tail (.tail (.head _ _)))))); (first | (focus (simp only [List.getElem?_toArray, List.getElem?_cons_zero, List.getElem?_cons_succ]; rfl)) | exact tab_get (by omega) | rfl); (first | exact one3 | exact one5 | exact one39 | exact one72 | exact one25 | exact one22); simp only [Act.put, List.setIfInBounds_toArray, List.set_cons_zero, List.set_cons_succ])
    | ((with_reducible refine wpl ?_); apply st_cell (hM := hM); rfl; (first | exact want_none rfl | exact want_some rfl rfl rfl rfl); rfl; (first | (focus (go_simp; done)) | (focus (go_simp; rfl))); (first | exact .head _ _ | exact .tail (.head _ _) | exact .tail (.tail (.head _ _)) | exact .tail (.tail (.tail (.head _ _))) | exact .tail (.tail (.tail (.tail (.head _ _)))) | exact .tail (.tail (.tail (.tail (.tail (.head _ _)))))); (first | (focus (simp; done)) | (focus (rw [tab_size]; omega))); rfl; (first | exact one3 | exact one5 | exact one39 | exact one72 | exact one25 | exact one22); intro w1 hM1; clear hM; (try simp only [List.setIfInBounds_toArray, List.set_cons_zero, List.set_cons_succ] at hM1); (try rw [tab_setInt] at hM1);  have hM := hM1; clear hM1; simp only [Act.put, List.setIfInBounds_toArray, List.set_cons_zero, List.set_cons_succ]))
  refine wp_region_tail 14 (by kernel_rfl) (by kernel_rfl) hM ?_
  clear hM
  intro wt hM
  simp only [List.take_succ_cons, List.take_zero, List.drop_succ_cons, List.drop_zero]
  repeat (first
    | ((with_reducible refine wst ?_); apply still_cell (hM := hM); rfl; (first | exact want_none rfl | exact want_some rfl rfl rfl rfl); rfl; (first | exact .head _ _ | exact .tail (.head _ _) | exact .tail (.tail (.head _ _)) | exact .tail (.tail (.tail (.head _ _))) | exact .tail (.tail (.tail (.tail (.head _ _)))) | exact .tail (.tail (.tail (.tail (.tail (.head _ _)))))); (first | (focus (simp only [List.getElem?_toArray, List.getElem?_cons_zero, List.getElem?_cons_succ]; rfl)) | exact tab_get (by omega) | rfl); (first | exact one39 | exact one3); simp only [Act.put, List.setIfInBounds_toArray, List.set_cons_zero, List.set_cons_succ])
    | ((with_reducible refine wst ?_); apply still_sl_h m'; rfl; (first | exact want_none rfl | exact want_some rfl rfl rfl rfl); exact und39; exact has3; rfl; rfl; (first | omega | (rw [IntKind.wrap_i64]; omega)); omega; simp only [Act.put, List.setIfInBounds_toArray, List.set_cons_zero, List.set_cons_succ])
    | still_step)
  refine wpStill_nil ?_
  go_wp2_with (first
    | ((with_reducible refine wpl ?_); apply al_box (hM := hM); rfl; (first | exact want_none rfl | exact want_some rfl rfl rfl rfl); (first | (focus (go_simp; done)) | (focus (go_simp; rfl))); intro gb w1 hM1; clear hM; dsimp only [Value.cells] at hM1; have hM := hM1; clear hM1; simp only [Act.put, List.setIfInBounds_toArray, List.set_cons_zero, List.set_cons_succ])
    | ((with_reducible refine wpl ?_); apply ld_row (hM := hM); rfl; (first | exact want_none rfl | exact want_some rfl rfl rfl rfl); rfl; (first | exact .head _ _ | exact .tail (.head _ _) | exact .tail (.tail (.head _ _)) | exact .tail (.tail (.tail (.head _ _))) | exact .tail (.tail (.tail (.tail (.head _ _)))) | exact .tail (.tail (.tail (.tail (.tail (.head _ _)))))); (first | exact row56 | exact row74); simp only [Act.put, List.setIfInBounds_toArray, List.set_cons_zero, List.set_cons_succ])
    | ((with_reducible refine wpl ?_); apply st_row (hM := hM); rfl; (first | exact want_none rfl | exact want_some rfl rfl rfl rfl); rfl; (first | (focus (go_simp; done)) | (focus (go_simp; rfl))); (first | exact .head _ _ | exact .tail (.head _ _) | exact .tail (.tail (.head _ _)) | exact .tail (.tail (.tail (.head _ _))) | exact .tail (.tail (.tail (.tail (.head _ _)))) | exact .tail (.tail (.tail (.tail (.tail (.head _ _)))))); rfl; rfl; (first | exact row56 | exact row74); intro w1 hM1; clear hM; (try simp only [List.setIfInBounds_toArray, List.set_cons_zero, List.set_cons_succ] at hM1); (try rw [tab_setInt] at hM1);  have hM := hM1; clear hM1; simp only [Act.put, List.setIfInBounds_toArray, List.set_cons_zero, List.set_cons_succ])
    | ((with_reducible refine wpl ?_); apply ld_one (hM := hM); rfl; (first | exact want_none rfl | exact want_some rfl rfl rfl rfl); rfl; (first | exact .head _ _ | exact .tail (.head _ _) | exact .tail (.tail (.head _ _)) | exact .tail (.tail (.tail (.head _ _))) | exact .tail (.tail (.tail (.tail (.head _ _)))) | exact .tail (.tail (.tail (.tail (.tail (.head _ _)))))); (first | (focus (simp only [List.getElem?_toArray, List.getElem?_cons_zero, List.getElem?_cons_succ]; rfl)) | exact tab_get (by omega) | rfl); (first | exact one3 | exact one5 | exact one39 | exact one72 | exact one25 | exact one22); simp only [Act.put, List.setIfInBounds_toArray, List.set_cons_zero, List.set_cons_succ])
    | ((with_reducible refine wpl ?_); apply st_cell (hM := hM); rfl; (first | exact want_none rfl | exact want_some rfl rfl rfl rfl); rfl; (first | (focus (go_simp; done)) | (focus (go_simp; rfl))); (first | exact .head _ _ | exact .tail (.head _ _) | exact .tail (.tail (.head _ _)) | exact .tail (.tail (.tail (.head _ _))) | exact .tail (.tail (.tail (.tail (.head _ _)))) | exact .tail (.tail (.tail (.tail (.tail (.head _ _)))))); (first | (focus (simp; done)) | (focus (rw [tab_size]; omega))); rfl; (first | exact one3 | exact one5 | exact one39 | exact one72 | exact one25 | exact one22); intro w1 hM1; clear hM; (try simp only [List.setIfInBounds_toArray, List.set_cons_zero, List.set_cons_succ] at hM1); (try rw [tab_setInt] at hM1);  have hM := hM1; clear hM1; simp only [Act.put, List.setIfInBounds_toArray, List.set_cons_zero, List.set_cons_succ])
    | ((with_reducible refine wpl ?_); apply st_zero (hM := hM); rfl; (first | exact want_none rfl | exact want_some rfl rfl rfl rfl); rfl; rfl; (first | exact .head _ _ | exact .tail (.head _ _) | exact .tail (.tail (.head _ _)) | exact .tail (.tail (.tail (.head _ _))) | exact .tail (.tail (.tail (.tail (.head _ _)))) | exact .tail (.tail (.tail (.tail (.tail (.head _ _)))))); exact h1; intro w1 hM1; clear hM; have hM := hM1; clear hM1; simp only [Act.put, List.setIfInBounds_toArray, List.set_cons_zero, List.set_cons_succ]))
  go_ret2
  exact ⟨rfl, (hM.sub (by (apply Sub.cons; (first | exact .head _ _ | exact .tail (.head _ _) | exact .tail (.tail (.head _ _)) | exact .tail (.tail (.tail (.head _ _))) | exact .tail (.tail (.tail (.tail (.head _ _)))) | exact .tail (.tail (.tail (.tail (.tail (.head _ _))))))); (apply Sub.cons; (first | exact .head _ _ | exact .tail (.head _ _) | exact .tail (.tail (.head _ _)) | exact .tail (.tail (.tail (.head _ _))) | exact .tail (.tail (.tail (.tail (.head _ _)))) | exact .tail (.tail (.tail (.tail (.tail (.head _ _))))))); (apply Sub.cons; (first | exact .head _ _ | exact .tail (.head _ _) | exact .tail (.tail (.head _ _)) | exact .tail (.tail (.tail (.head _ _))) | exact .tail (.tail (.tail (.tail (.head _ _)))) | exact .tail (.tail (.tail (.tail (.tail (.head _ _))))))); (apply Sub.cons; (first | exact .head _ _ | exact .tail (.head _ _) | exact .tail (.tail (.head _ _)) | exact .tail (.tail (.tail (.head _ _))) | exact .tail (.tail (.tail (.tail (.head _ _)))) | exact .tail (.tail (.tail (.tail (.tail (.head _ _))))))); exact Sub.nil _)).swap⟩

end
end Go.Proofs.Ytiamkbmefllljaa.A
