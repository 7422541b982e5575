/- Blocks with which anything is done have just what was written to them since they were taken. No condition. -/
import Derived.Test.YtiamkbmefllljaaBpA
import Derived.Test.YtiamkbmefllljaaShrt
import Derived.Deep.LoopGhost
import Derived.Deep.CutRange
set_option linter.unusedSimpArgs false
set_option linter.unusedVariables false
namespace Go.Proofs.Ytiamkbmefllljaa.Bp
open Go.RowKit Go.Proofs.Ytiamkbmefllljaa.M Go.Proofs.Ytiamkbmefllljaa.A Go.Proofs.Ytiamkbmefllljaa.L


theorem came_cell {B : Base} {w : World} {fr l : List Blk} {a : Addr} {v : Value} (hM : Mem B w fr l) (h : B.w.cell? a = some v) : w.cell? a = some v := (hM.oldCell (cell_lt h)).trans h
theorem cf17 : ∀ (vs : Array Value) (w : World), (callFunc 17 vs).run Try.prog w = .ok (.enter 17 vs) w := fun vs w => by kernel_rfl
theorem cf21 : ∀ (vs : Array Value) (w : World), (callFunc 21 vs).run Try.prog w = .ok (.enter 21 vs) w := fun vs w => by kernel_rfl
theorem und56' : Try.prog.underlying 56 = some (.array 64 5) := und56
theorem run_arr_lh {a : Act} {x lo hi : Operand} {g q : Nat} {kl kh : IntKind} {V H : Int} {oi : Oper} (w : World) (m n : Nat) (hop : oi.op = .slice 56 x (some lo) (some hi) none)
    (hx : a.eval x = .pointer (some ⟨g, q, none⟩)) (hlo : a.eval lo = .int kl V) (hhi : a.eval hi = .int kh H) (hL : V = (m : Int)) (hH : H = (n : Int)) (h1 : m ≤ n) (h2 : n ≤ 64) :
    (execOp a.eval oi).run Try.prog w = .ok (.value (.slice (some ⟨g, q + skp 64 m 1, none⟩) (n - m) (64 - m))) w := by
  have hs := size5
  cases hq : Try.prog.info? 5 with
  | none => simp [hq] at hs
  | some i =>
    have hsz : i.size = 1 := by simpa [hq] using hs
    have hrun : (Instr.sliceAt 56 (.pointer (some ⟨g, q, none⟩)) (some (.int kl V)) (some (.int kh H)) none).run Try.prog w = .ok (.slice (some ⟨g, q + skp 64 m 1, none⟩) (n - m) (64 - m)) w := by
      simp [Instr.sliceAt, run_underlying und56, Instr.sureAddr, Instr.sliceBounds, run_bound w kh H n 64 _ hH h2, run_bound w kl V m n _ hL h1, sizeOf, typeInfo, hq, hsz]
      unfold skp
      split <;> simp [Addr.add_lit]
    unfold execOp
    simp only [hop, hx, hlo, hhi, Option.map_some, Option.map_none, Sem.run_bind, hrun, Result.andThen_ok]
    rfl
theorem run_arr_l {a : Act} {x lo : Operand} {g q : Nat} {kl : IntKind} {V : Int} {oi : Oper} (w : World) (m : Nat) (hop : oi.op = .slice 56 x (some lo) none none)
    (hx : a.eval x = .pointer (some ⟨g, q, none⟩)) (hlo : a.eval lo = .int kl V) (hL : V = (m : Int)) (h1 : m ≤ 64) :
    (execOp a.eval oi).run Try.prog w = .ok (.value (.slice (some ⟨g, q + skp 64 m 1, none⟩) (64 - m) (64 - m))) w := by
  have hs := size5
  cases hq : Try.prog.info? 5 with
  | none => simp [hq] at hs
  | some i =>
    have hsz : i.size = 1 := by simpa [hq] using hs
    have hrun : (Instr.sliceAt 56 (.pointer (some ⟨g, q, none⟩)) (some (.int kl V)) none none).run Try.prog w = .ok (.slice (some ⟨g, q + skp 64 m 1, none⟩) (64 - m) (64 - m)) w := by
      simp [Instr.sliceAt, run_underlying und56, Instr.sureAddr, Instr.sliceBounds, run_bound w kl V m 64 _ hL h1, sizeOf, typeInfo, hq, hsz]
      unfold skp
      split <;> simp [Addr.add_lit]
    unfold execOp
    simp only [hop, hx, hlo, Option.map_some, Option.map_none, Sem.run_bind, hrun, Result.andThen_ok]
    rfl
theorem run_arr_all {a : Act} {x : Operand} {g q : Nat} {oi : Oper} (w : World) (hop : oi.op = .slice 56 x none none none) (hx : a.eval x = .pointer (some ⟨g, q, none⟩)) :
    (execOp a.eval oi).run Try.prog w = .ok (.value (.slice (some ⟨g, q, none⟩) 64 64)) w := by
  have hs := size5
  cases hq : Try.prog.info? 5 with
  | none => simp [hq] at hs
  | some i =>
    have hsz : i.size = 1 := by simpa [hq] using hs
    have hrun : (Instr.sliceAt 56 (.pointer (some ⟨g, q, none⟩)) none none none).run Try.prog w = .ok (.slice (some ⟨g, q, none⟩) 64 64) w := by
      simp [Instr.sliceAt, run_underlying und56, Instr.sureAddr, Instr.sliceBounds, sizeOf, typeInfo, hq, hsz, Addr.add]
    unfold execOp
    simp only [hop, hx, Option.map_some, Option.map_none, Sem.run_bind, hrun, Result.andThen_ok]
    rfl
/-- The bytes of a block as it should be, from q on. -/
theorem onec_bytes {B : Base} {w : World} {fr l r : List Blk} {gx : Nat} {D : Nat → UInt8} {o q n c : Nat} {h : Int} {t : TypeId} {fz : Nat × Nat} (hp : Pick l ⟨gx, onec D o h, t, fz⟩ r) (hq : q ≤ 64) (hn : n ≤ 64 - q) (hc : n ≤ c) (hM : Mem B w fr l) :
    Bytes w (.slice (some ⟨gx, 0 + skp 64 q 1, none⟩) n c) (seg D (o + q) n) :=
  bytes_of hM hp _ (seg_len _ _ _) hc (fun j hj => by
    have hne : ¬ 64 = q := by omega
    have hs : 0 + skp 64 q 1 = q := by unfold skp; rw [if_neg hne]; omega
    rw [hs, onec_at (by omega), List.getD_eq_getElem?_getD, seg_get hj, Nat.add_assoc]
    rfl)
theorem onec_bytes0 {B : Base} {w : World} {fr l r : List Blk} {gx : Nat} {D : Nat → UInt8} {o : Nat} {h : Int} {t : TypeId} {fz : Nat × Nat} (hp : Pick l ⟨gx, onec D o h, t, fz⟩ r) (hM : Mem B w fr l) :
    Bytes w (.slice (some ⟨gx, 0, none⟩) 64 64) (seg D (o + 0) 64) := onec_bytes (q := 0) (n := 64) hp (by omega) (by omega) (Nat.le_refl _) hM
theorem read_seg {B : Base} {w : World} {fr l r : List Blk} {g n c o : Nat} {cs : Array Value} {D : Nat → UInt8} {t : TypeId} {fz : Nat × Nat} (hp : Pick l ⟨g, cs, t, fz⟩ r) (hc : n ≤ c)
    (h : ∀ j, j < n → cs[j]? = some (M.u8 (D (o + j)))) (hM : Mem B w fr l) : Bytes w (.slice (some ⟨g, 0, none⟩) n c) (seg D o n) := read_bytes hM hp hc h
theorem build58 {a : Act} {oi : Oper} (w : World) (hop : oi.op = .build 58 #[(1, .const (.int .i64 1))]) : (execOp a.eval oi).run Try.prog w = .ok (.value (.agg (onec (fun _ => 0) 0 1))) w := by
  unfold execOp
  simp only [hop]
  kernel_rfl
theorem del_same {s : St} {T : List Nat} {k i2 i3 : Nat} {u u' : Value} (hnd : T.Nodup) (h2 : (ents s T)[i2]? = some ((k : Int), u)) (h3 : ((ents s T).set i2 ((k : Int), u'))[i3]? = some ((k : Int), u')) : i3 = i2 := by
  by_cases e : i2 = i3
  · exact e.symm
  · rw [List.getElem?_set_ne e] at h3
    obtain ⟨a, b⟩ := ents_at h2
    obtain ⟨c, d⟩ := ents_at h3
    exact (List.getElem_inj hnd).1 (d.trans b.symm)
theorem id_in {T : List Nat} {id : Int} (h : ¬ ∀ k ∈ T, (k : Int) ≠ id) : ∃ k : Nat, k ∈ T ∧ id = (k : Int) := by
  by_cases h1 : ∃ k : Nat, k ∈ T ∧ id = (k : Int)
  · exact h1
  · exact absurd (fun k hk e => h1 ⟨k, hk, e.symm⟩) h
set_option maxRecDepth 100000 in
set_option maxHeartbeats 40000000 in
theorem bp_ok (w : World) (n0 : Nat) (y : Value) (ops : List Op6) (hO : Recs w 6 (OpRec w) y ops) (hn0 : n0 ≤ 16384) (hz : ops.length ≤ 100) : Calls Try.prog 7 #[.int .i64 n0, y] w fun e w' => e = .returned (.bool true) ∧ Below w.heap.size w w' := by
 have hM := Mem.start w
 obtain ⟨yb, yc, rfl⟩ := hO.len
 have d9 : decide ((n0 : Int) < 0) = false := decide_eq_false (by omega)
 have d8 : decide ((n0 : Int) > 16384) = false := decide_eq_false (by omega)
 have d7 : decide ((ops.length : Int) > 100) = false := decide_eq_false (by omega)
 have hn0i : (n0 : Int) ≤ 16384 := by omega
 go_enter Try.func7, Try.ntmps7
 go_wp2_with (first | (go_at_call 14; (with_reducible refine (holds_mem _).mono ?_); rintro e w3 ⟨rfl, hb⟩; replace hM := hM.step hb; clear hb) | ((with_reducible refine wpl ?_); (first | (apply st_row (hM := hM) (h1 := onec_one _ _ _) (ht := onec_row _ _ _); rfl; rfl; rfl; (first | (focus (go_simp; done)) | (focus (go_simp; rfl))); (repeat first | exact .head _ _ | apply Pick.tail); exact (onec_size _ _ _).trans (onec_size _ _ _).symm; clear hM; intro w1 hM) | (apply ld_row (hM := hM) (ht := onec_row _ _ _); rfl; rfl; rfl; (repeat first | exact .head _ _ | apply Pick.tail)) | (apply ld_one (hM := hM) (hv := onec_64) (ht := one3); rfl; rfl; rfl; (repeat first | exact .head _ _ | apply Pick.tail)) | (apply st_cell (hM := hM) (i := 64) (ht := one3); rfl; rfl; rfl; (first | (focus (go_simp; done)) | (focus (go_simp; rfl))); (repeat first | exact .head _ _ | apply Pick.tail); (rw [onec_size]; decide); rfl; intro w1 hM1; clear hM; (rw [onec_hold] at hM1); have hM := hM1; clear hM1) | (apply al_box (hM := hM); rfl; rfl; (first | (focus (go_simp; done)) | (focus (go_simp; rfl))); clear hM; intro gb w1 hM; dsimp only [Value.cells] at hM) | (apply al_zero (hM := hM); rfl; rfl; (first | exact zero55 | exact zero58); clear hM; intro gz w1 hM; dsimp only [Value.cells] at hM) | (apply ld_row (hM := hM); rfl; rfl; rfl; (repeat first | exact .head _ _ | apply Pick.tail); (first | exact row55)) | (apply st_row (hM := hM); rfl; rfl; rfl; (first | (focus (go_simp; done)) | (focus (go_simp; rfl))); (repeat first | exact .head _ _ | apply Pick.tail); rfl; rfl; (first | exact row55); intro w1 hM1; clear hM; (try simp only [q1, q2, q3] at hM1); (try rw [tab_setInt] at hM1);  have hM := hM1; clear hM1) | (apply ld_one (hM := hM); rfl; rfl; rfl; (repeat first | exact .head _ _ | apply Pick.tail); rfl; (first | exact one3 | exact one39 | exact one22)) | (apply st_cell (hM := hM); rfl; rfl; rfl; (first | (focus (go_simp; done)) | (focus (go_simp; rfl))); (repeat first | exact .head _ _ | apply Pick.tail); simp; rfl; (first | exact one3 | exact one39 | exact one22); intro w1 hM1; clear hM; (try simp only [q1, q2, q3] at hM1); (try rw [tab_setInt] at hM1);  have hM := hM1; clear hM1)); simp only [q0, q9, q1, q2, q3]))
 refine (new hM n0 (by omega) rfl).mono ?_
 clear hM
 rintro e w3 ⟨p, s, rfl, hn, ok, hm, hH, hM⟩
 replace hn := hid_ hn
 replace hm := hid_ hm
 replace hH := hid_ hH
 go_wp2_with ((with_reducible refine wpl ?_); (first | (apply mp_make (hM := hM); rfl; rfl; clear hM; intro gm w1 hne hE hM) | (apply st_row (hM := hM) (h1 := onec_one _ _ _) (ht := onec_row _ _ _); rfl; rfl; rfl; (first | (focus (go_simp; done)) | (focus (go_simp; rfl))); (repeat first | exact .head _ _ | apply Pick.tail); exact (onec_size _ _ _).trans (onec_size _ _ _).symm; clear hM; intro w1 hM) | (apply ld_row (hM := hM) (ht := onec_row _ _ _); rfl; rfl; rfl; (repeat first | exact .head _ _ | apply Pick.tail)) | (apply ld_one (hM := hM) (hv := onec_64) (ht := one3); rfl; rfl; rfl; (repeat first | exact .head _ _ | apply Pick.tail)) | (apply st_cell (hM := hM) (i := 64) (ht := one3); rfl; rfl; rfl; (first | (focus (go_simp; done)) | (focus (go_simp; rfl))); (repeat first | exact .head _ _ | apply Pick.tail); (rw [onec_size]; decide); rfl; intro w1 hM1; clear hM; (rw [onec_hold] at hM1); have hM := hM1; clear hM1) | (apply al_box (hM := hM); rfl; rfl; (first | (focus (go_simp; done)) | (focus (go_simp; rfl))); clear hM; intro gb w1 hM; dsimp only [Value.cells] at hM) | (apply al_zero (hM := hM); rfl; rfl; (first | exact zero55 | exact zero58); clear hM; intro gz w1 hM; dsimp only [Value.cells] at hM) | (apply ld_row (hM := hM); rfl; rfl; rfl; (repeat first | exact .head _ _ | apply Pick.tail); (first | exact row55)) | (apply st_row (hM := hM); rfl; rfl; rfl; (first | (focus (go_simp; done)) | (focus (go_simp; rfl))); (repeat first | exact .head _ _ | apply Pick.tail); rfl; rfl; (first | exact row55); intro w1 hM1; clear hM; (try simp only [q1, q2, q3] at hM1); (try rw [tab_setInt] at hM1);  have hM := hM1; clear hM1) | (apply ld_one (hM := hM); rfl; rfl; rfl; (repeat first | exact .head _ _ | apply Pick.tail); rfl; (first | exact one3 | exact one39 | exact one22)) | (apply st_cell (hM := hM); rfl; rfl; rfl; (first | (focus (go_simp; done)) | (focus (go_simp; rfl))); (repeat first | exact .head _ _ | apply Pick.tail); simp; rfl; (first | exact one3 | exact one39 | exact one22); intro w1 hM1; clear hM; (try simp only [q1, q2, q3] at hM1); (try rw [tab_setInt] at hM1);  have hM := hM1; clear hM1)); simp only [q0, q9, q1, q2, q3])
 go_loopg [54, 8] (ops.length) (fun gk xj x8 wr => ∃ (j : Nat) (ss : St) (T : List Nat) (es : Array MapEntry) (clk : Nat) (F : List Value) (R8 : List Blk), Hid (gk + j = ops.length) ∧ xj = .int .i64 j ∧ Okay p ss ∧ Inv p ss T j ∧ IsM es clk (ents ss T) ∧ Tbl 3 1 x8 F R8 ∧ Hid (F.length ≤ j) ∧ Hid (∀ v ∈ F, ∃ z, v = .int .i64 z) ∧ Mem ⟨w, [(gm, .map es clk)]⟩ wr (arena p ss) R8)
 case atStart => exact ⟨0, s, [], _, _, [], [], hid_ (by omega), by go_num, ok, Inv.start ok (by rw [hm.out, hn.out]) hH.out, hE, .nil, hid_ (Nat.le_refl _), hid_ (fun v hv => by simp at hv), hM⟩
 case round =>
  obtain ⟨j, ss, T, es, clk, F, R8, hgk, rfl, ok2, inv, hE1, hT8, hF8, hFi, hMr⟩ := hrel
  clear hM hE
  have hM := hMr
  have hE := hE1
  clear hMr hE1
  by_cases hlt : j < ops.length
  · obtain ⟨ya, tb, tc, rfl, hrec, hbt⟩ := op_get hO hlt
    have hrec := hid_ hrec
    generalize ops[j] = oo at hrec hbt
    obtain ⟨ok_, op_, oa_, on_, or_, td⟩ := oo
    simp only at hrec hbt
    by_cases htd : td.length ≤ 200
    · have t1 : decide ((td.length : Int) > 200) = false := decide_eq_false (by omega)
      obtain ⟨b8, n8, c8, rfl, hFl⟩ := hT8.slice
      go_upto_region 16 with (first | ((with_reducible refine wpl ?_); apply ld_any [.int .i64 ok_, .int .i64 op_, .int .i64 oa_, .int .i64 on_, .int .i64 or_, .slice tb td.length tc]; rfl; rfl; rfl; exact (fun i u hu => came_cell hM (hrec.out i u hu)); exact row55; simp only [q0, q9, q1, q2, q3]) | ((with_reducible refine wpl ?_); apply st_row (hM := hM) (h1 := onec_one _ _ _) (ht := onec_row _ _ _); rfl; rfl; rfl; (first | (focus (go_simp; done)) | (focus (go_simp; rfl))); (repeat first | exact .head _ _ | apply Pick.tail); exact (onec_size _ _ _).trans (onec_size _ _ _).symm; clear hM; intro w1 hM; simp only [q0, q9, q1, q2, q3]) | ((with_reducible refine wpl ?_); apply ld_row (hM := hM) (ht := onec_row _ _ _); rfl; rfl; rfl; (repeat first | exact .head _ _ | apply Pick.tail); simp only [q0, q9, q1, q2, q3]) | ((with_reducible refine wpl ?_); apply ld_one (hM := hM) (hv := onec_64) (ht := one3); rfl; rfl; rfl; (repeat first | exact .head _ _ | apply Pick.tail); simp only [q0, q9, q1, q2, q3]) | ((with_reducible refine wpl ?_); apply st_cell (hM := hM) (i := 64) (ht := one3); rfl; rfl; rfl; (first | (focus (go_simp; done)) | (focus (go_simp; rfl))); (repeat first | exact .head _ _ | apply Pick.tail); (rw [onec_size]; decide); rfl; intro w1 hM1; clear hM; (rw [onec_hold] at hM1); have hM := hM1; clear hM1; simp only [q0, q9, q1, q2, q3]) | ((with_reducible refine wpl ?_); apply al_box (hM := hM); rfl; rfl; (first | (focus (go_simp; done)) | (focus (go_simp; rfl))); clear hM; intro gb w1 hM; dsimp only [Value.cells] at hM; simp only [q0, q9, q1, q2, q3]) | ((with_reducible refine wpl ?_); apply al_zero (hM := hM); rfl; rfl; (first | exact zero55 | exact zero58); clear hM; intro gz w1 hM; dsimp only [Value.cells] at hM; simp only [q0, q9, q1, q2, q3]) | ((with_reducible refine wpl ?_); apply ld_row (hM := hM); rfl; rfl; rfl; (repeat first | exact .head _ _ | apply Pick.tail); (first | exact row55); simp only [q0, q9, q1, q2, q3]) | ((with_reducible refine wpl ?_); apply st_row (hM := hM); rfl; rfl; rfl; (first | (focus (go_simp; done)) | (focus (go_simp; rfl))); (repeat first | exact .head _ _ | apply Pick.tail); rfl; rfl; (first | exact row55); intro w1 hM1; clear hM; (try simp only [q1, q2, q3] at hM1); (try rw [tab_setInt] at hM1);  have hM := hM1; clear hM1; simp only [q0, q9, q1, q2, q3]) | ((with_reducible refine wpl ?_); apply ld_one (hM := hM); rfl; rfl; rfl; (repeat first | exact .head _ _ | apply Pick.tail); rfl; (first | exact one3 | exact one39 | exact one22); simp only [q0, q9, q1, q2, q3]) | ((with_reducible refine wpl ?_); apply st_cell (hM := hM); rfl; rfl; rfl; (first | (focus (go_simp; done)) | (focus (go_simp; rfl))); (repeat first | exact .head _ _ | apply Pick.tail); simp; rfl; (first | exact one3 | exact one39 | exact one22); intro w1 hM1; clear hM; (try simp only [q1, q2, q3] at hM1); (try rw [tab_setInt] at hM1);  have hM := hM1; clear hM1; simp only [q0, q9, q1, q2, q3]))
      obtain ⟨gz, rfl⟩ : ∃ g : Nat, g = gz := ⟨_, rfl⟩
      go_cut [69] from 62 to 68 (fun x69 wx => ∃ b : Bool, x69 = .bool b ∧ Hid (b = true → 0 < n8 ∧ 0 ≤ op_) ∧ Mem ⟨w, [(gm, .map es clk)]⟩ wx (arena p ss) (⟨gz, #[.int .i64 ok_, .int .i64 op_, .int .i64 oa_, .int .i64 on_, .int .i64 or_, .slice tb td.length tc], 55, (0, 0)⟩ :: R8))
      case first =>
       by_cases e8 : 0 < n8
       · have f1 : decide ((n8 : Int) > 0) = true := decide_eq_true (by omega)
         by_cases ep : 0 ≤ op_
         · have f2 : decide (op_ ≥ 0) = true := decide_eq_true (by omega)
           go_wp2_with ((with_reducible refine wpl ?_); (first | (apply st_row (hM := hM) (h1 := onec_one _ _ _) (ht := onec_row _ _ _); rfl; rfl; rfl; (first | (focus (go_simp; done)) | (focus (go_simp; rfl))); (repeat first | exact .head _ _ | apply Pick.tail); exact (onec_size _ _ _).trans (onec_size _ _ _).symm; clear hM; intro w1 hM) | (apply ld_row (hM := hM) (ht := onec_row _ _ _); rfl; rfl; rfl; (repeat first | exact .head _ _ | apply Pick.tail)) | (apply ld_one (hM := hM) (hv := onec_64) (ht := one3); rfl; rfl; rfl; (repeat first | exact .head _ _ | apply Pick.tail)) | (apply st_cell (hM := hM) (i := 64) (ht := one3); rfl; rfl; rfl; (first | (focus (go_simp; done)) | (focus (go_simp; rfl))); (repeat first | exact .head _ _ | apply Pick.tail); (rw [onec_size]; decide); rfl; intro w1 hM1; clear hM; (rw [onec_hold] at hM1); have hM := hM1; clear hM1) | (apply al_box (hM := hM); rfl; rfl; (first | (focus (go_simp; done)) | (focus (go_simp; rfl))); clear hM; intro gb w1 hM; dsimp only [Value.cells] at hM) | (apply al_zero (hM := hM); rfl; rfl; (first | exact zero55 | exact zero58); clear hM; intro gz w1 hM; dsimp only [Value.cells] at hM) | (apply ld_row (hM := hM); rfl; rfl; rfl; (repeat first | exact .head _ _ | apply Pick.tail); (first | exact row55)) | (apply st_row (hM := hM); rfl; rfl; rfl; (first | (focus (go_simp; done)) | (focus (go_simp; rfl))); (repeat first | exact .head _ _ | apply Pick.tail); rfl; rfl; (first | exact row55); intro w1 hM1; clear hM; (try simp only [q1, q2, q3] at hM1); (try rw [tab_setInt] at hM1);  have hM := hM1; clear hM1) | (apply ld_one (hM := hM); rfl; rfl; rfl; (repeat first | exact .head _ _ | apply Pick.tail); rfl; (first | exact one3 | exact one39 | exact one22)) | (apply st_cell (hM := hM); rfl; rfl; rfl; (first | (focus (go_simp; done)) | (focus (go_simp; rfl))); (repeat first | exact .head _ _ | apply Pick.tail); simp; rfl; (first | exact one3 | exact one39 | exact one22); intro w1 hM1; clear hM; (try simp only [q1, q2, q3] at hM1); (try rw [tab_setInt] at hM1);  have hM := hM1; clear hM1)); simp only [q0, q9, q1, q2, q3])
           go_meet
           case rel => exact ⟨true, rfl, hid_ (fun _ => ⟨e8, ep⟩), hM⟩
         · have f2 : decide (op_ ≥ 0) = false := decide_eq_false (by omega)
           go_wp2_with ((with_reducible refine wpl ?_); (first | (apply st_row (hM := hM) (h1 := onec_one _ _ _) (ht := onec_row _ _ _); rfl; rfl; rfl; (first | (focus (go_simp; done)) | (focus (go_simp; rfl))); (repeat first | exact .head _ _ | apply Pick.tail); exact (onec_size _ _ _).trans (onec_size _ _ _).symm; clear hM; intro w1 hM) | (apply ld_row (hM := hM) (ht := onec_row _ _ _); rfl; rfl; rfl; (repeat first | exact .head _ _ | apply Pick.tail)) | (apply ld_one (hM := hM) (hv := onec_64) (ht := one3); rfl; rfl; rfl; (repeat first | exact .head _ _ | apply Pick.tail)) | (apply st_cell (hM := hM) (i := 64) (ht := one3); rfl; rfl; rfl; (first | (focus (go_simp; done)) | (focus (go_simp; rfl))); (repeat first | exact .head _ _ | apply Pick.tail); (rw [onec_size]; decide); rfl; intro w1 hM1; clear hM; (rw [onec_hold] at hM1); have hM := hM1; clear hM1) | (apply al_box (hM := hM); rfl; rfl; (first | (focus (go_simp; done)) | (focus (go_simp; rfl))); clear hM; intro gb w1 hM; dsimp only [Value.cells] at hM) | (apply al_zero (hM := hM); rfl; rfl; (first | exact zero55 | exact zero58); clear hM; intro gz w1 hM; dsimp only [Value.cells] at hM) | (apply ld_row (hM := hM); rfl; rfl; rfl; (repeat first | exact .head _ _ | apply Pick.tail); (first | exact row55)) | (apply st_row (hM := hM); rfl; rfl; rfl; (first | (focus (go_simp; done)) | (focus (go_simp; rfl))); (repeat first | exact .head _ _ | apply Pick.tail); rfl; rfl; (first | exact row55); intro w1 hM1; clear hM; (try simp only [q1, q2, q3] at hM1); (try rw [tab_setInt] at hM1);  have hM := hM1; clear hM1) | (apply ld_one (hM := hM); rfl; rfl; rfl; (repeat first | exact .head _ _ | apply Pick.tail); rfl; (first | exact one3 | exact one39 | exact one22)) | (apply st_cell (hM := hM); rfl; rfl; rfl; (first | (focus (go_simp; done)) | (focus (go_simp; rfl))); (repeat first | exact .head _ _ | apply Pick.tail); simp; rfl; (first | exact one3 | exact one39 | exact one22); intro w1 hM1; clear hM; (try simp only [q1, q2, q3] at hM1); (try rw [tab_setInt] at hM1);  have hM := hM1; clear hM1)); simp only [q0, q9, q1, q2, q3])
           go_meet
           case rel => exact ⟨false, rfl, hid_ (fun h => absurd h (by decide)), hM⟩
       · have f1 : decide ((n8 : Int) > 0) = false := decide_eq_false (by omega)
         go_wp2_with ((with_reducible refine wpl ?_); (first | (apply st_row (hM := hM) (h1 := onec_one _ _ _) (ht := onec_row _ _ _); rfl; rfl; rfl; (first | (focus (go_simp; done)) | (focus (go_simp; rfl))); (repeat first | exact .head _ _ | apply Pick.tail); exact (onec_size _ _ _).trans (onec_size _ _ _).symm; clear hM; intro w1 hM) | (apply ld_row (hM := hM) (ht := onec_row _ _ _); rfl; rfl; rfl; (repeat first | exact .head _ _ | apply Pick.tail)) | (apply ld_one (hM := hM) (hv := onec_64) (ht := one3); rfl; rfl; rfl; (repeat first | exact .head _ _ | apply Pick.tail)) | (apply st_cell (hM := hM) (i := 64) (ht := one3); rfl; rfl; rfl; (first | (focus (go_simp; done)) | (focus (go_simp; rfl))); (repeat first | exact .head _ _ | apply Pick.tail); (rw [onec_size]; decide); rfl; intro w1 hM1; clear hM; (rw [onec_hold] at hM1); have hM := hM1; clear hM1) | (apply al_box (hM := hM); rfl; rfl; (first | (focus (go_simp; done)) | (focus (go_simp; rfl))); clear hM; intro gb w1 hM; dsimp only [Value.cells] at hM) | (apply al_zero (hM := hM); rfl; rfl; (first | exact zero55 | exact zero58); clear hM; intro gz w1 hM; dsimp only [Value.cells] at hM) | (apply ld_row (hM := hM); rfl; rfl; rfl; (repeat first | exact .head _ _ | apply Pick.tail); (first | exact row55)) | (apply st_row (hM := hM); rfl; rfl; rfl; (first | (focus (go_simp; done)) | (focus (go_simp; rfl))); (repeat first | exact .head _ _ | apply Pick.tail); rfl; rfl; (first | exact row55); intro w1 hM1; clear hM; (try simp only [q1, q2, q3] at hM1); (try rw [tab_setInt] at hM1);  have hM := hM1; clear hM1) | (apply ld_one (hM := hM); rfl; rfl; rfl; (repeat first | exact .head _ _ | apply Pick.tail); rfl; (first | exact one3 | exact one39 | exact one22)) | (apply st_cell (hM := hM); rfl; rfl; rfl; (first | (focus (go_simp; done)) | (focus (go_simp; rfl))); (repeat first | exact .head _ _ | apply Pick.tail); simp; rfl; (first | exact one3 | exact one39 | exact one22); intro w1 hM1; clear hM; (try simp only [q1, q2, q3] at hM1); (try rw [tab_setInt] at hM1);  have hM := hM1; clear hM1)); simp only [q0, q9, q1, q2, q3])
         go_meet
         case rel => exact ⟨false, rfl, hid_ (fun h => absurd h (by decide)), hM⟩
      case rest =>
       obtain ⟨b, rfl, hb, hM1⟩ := hcut
       clear hM
       have hM := hM1
       clear hM1
       go_upto_if 69 with (first | ((with_reducible refine wpl ?_); apply st_row (hM := hM) (h1 := onec_one _ _ _) (ht := onec_row _ _ _); rfl; rfl; rfl; (first | (focus (go_simp; done)) | (focus (go_simp; rfl))); (repeat first | exact .head _ _ | apply Pick.tail); exact (onec_size _ _ _).trans (onec_size _ _ _).symm; clear hM; intro w1 hM; simp only [q0, q9, q1, q2, q3]) | ((with_reducible refine wpl ?_); apply ld_row (hM := hM) (ht := onec_row _ _ _); rfl; rfl; rfl; (repeat first | exact .head _ _ | apply Pick.tail); simp only [q0, q9, q1, q2, q3]) | ((with_reducible refine wpl ?_); apply ld_one (hM := hM) (hv := onec_64) (ht := one3); rfl; rfl; rfl; (repeat first | exact .head _ _ | apply Pick.tail); simp only [q0, q9, q1, q2, q3]) | ((with_reducible refine wpl ?_); apply st_cell (hM := hM) (i := 64) (ht := one3); rfl; rfl; rfl; (first | (focus (go_simp; done)) | (focus (go_simp; rfl))); (repeat first | exact .head _ _ | apply Pick.tail); (rw [onec_size]; decide); rfl; intro w1 hM1; clear hM; (rw [onec_hold] at hM1); have hM := hM1; clear hM1; simp only [q0, q9, q1, q2, q3]) | ((with_reducible refine wpl ?_); apply al_box (hM := hM); rfl; rfl; (first | (focus (go_simp; done)) | (focus (go_simp; rfl))); clear hM; intro gb w1 hM; dsimp only [Value.cells] at hM; simp only [q0, q9, q1, q2, q3]) | ((with_reducible refine wpl ?_); apply al_zero (hM := hM); rfl; rfl; (first | exact zero55 | exact zero58); clear hM; intro gz w1 hM; dsimp only [Value.cells] at hM; simp only [q0, q9, q1, q2, q3]) | ((with_reducible refine wpl ?_); apply ld_row (hM := hM); rfl; rfl; rfl; (repeat first | exact .head _ _ | apply Pick.tail); (first | exact row55); simp only [q0, q9, q1, q2, q3]) | ((with_reducible refine wpl ?_); apply st_row (hM := hM); rfl; rfl; rfl; (first | (focus (go_simp; done)) | (focus (go_simp; rfl))); (repeat first | exact .head _ _ | apply Pick.tail); rfl; rfl; (first | exact row55); intro w1 hM1; clear hM; (try simp only [q1, q2, q3] at hM1); (try rw [tab_setInt] at hM1);  have hM := hM1; clear hM1; simp only [q0, q9, q1, q2, q3]) | ((with_reducible refine wpl ?_); apply ld_one (hM := hM); rfl; rfl; rfl; (repeat first | exact .head _ _ | apply Pick.tail); rfl; (first | exact one3 | exact one39 | exact one22); simp only [q0, q9, q1, q2, q3]) | ((with_reducible refine wpl ?_); apply st_cell (hM := hM); rfl; rfl; rfl; (first | (focus (go_simp; done)) | (focus (go_simp; rfl))); (repeat first | exact .head _ _ | apply Pick.tail); simp; rfl; (first | exact one3 | exact one39 | exact one22); intro w1 hM1; clear hM; (try simp only [q1, q2, q3] at hM1); (try rw [tab_setInt] at hM1);  have hM := hM1; clear hM1; simp only [q0, q9, q1, q2, q3]))
       go_cut [11] from 62 to 77 (fun x11 wx => ∃ id : Int, x11 = .int .i64 id ∧ Mem ⟨w, [(gm, .map es clk)]⟩ wx (arena p ss) (⟨gz, #[.int .i64 ok_, .int .i64 op_, .int .i64 oa_, .int .i64 on_, .int .i64 or_, .slice tb td.length tc], 55, (0, 0)⟩ :: R8))
       case first =>
        cases b with
        | false =>
         go_wp2_with ((with_reducible refine wpl ?_); (first | (apply st_row (hM := hM) (h1 := onec_one _ _ _) (ht := onec_row _ _ _); rfl; rfl; rfl; (first | (focus (go_simp; done)) | (focus (go_simp; rfl))); (repeat first | exact .head _ _ | apply Pick.tail); exact (onec_size _ _ _).trans (onec_size _ _ _).symm; clear hM; intro w1 hM) | (apply ld_row (hM := hM) (ht := onec_row _ _ _); rfl; rfl; rfl; (repeat first | exact .head _ _ | apply Pick.tail)) | (apply ld_one (hM := hM) (hv := onec_64) (ht := one3); rfl; rfl; rfl; (repeat first | exact .head _ _ | apply Pick.tail)) | (apply st_cell (hM := hM) (i := 64) (ht := one3); rfl; rfl; rfl; (first | (focus (go_simp; done)) | (focus (go_simp; rfl))); (repeat first | exact .head _ _ | apply Pick.tail); (rw [onec_size]; decide); rfl; intro w1 hM1; clear hM; (rw [onec_hold] at hM1); have hM := hM1; clear hM1) | (apply al_box (hM := hM); rfl; rfl; (first | (focus (go_simp; done)) | (focus (go_simp; rfl))); clear hM; intro gb w1 hM; dsimp only [Value.cells] at hM) | (apply al_zero (hM := hM); rfl; rfl; (first | exact zero55 | exact zero58); clear hM; intro gz w1 hM; dsimp only [Value.cells] at hM) | (apply ld_row (hM := hM); rfl; rfl; rfl; (repeat first | exact .head _ _ | apply Pick.tail); (first | exact row55)) | (apply st_row (hM := hM); rfl; rfl; rfl; (first | (focus (go_simp; done)) | (focus (go_simp; rfl))); (repeat first | exact .head _ _ | apply Pick.tail); rfl; rfl; (first | exact row55); intro w1 hM1; clear hM; (try simp only [q1, q2, q3] at hM1); (try rw [tab_setInt] at hM1);  have hM := hM1; clear hM1) | (apply ld_one (hM := hM); rfl; rfl; rfl; (repeat first | exact .head _ _ | apply Pick.tail); rfl; (first | exact one3 | exact one39 | exact one22)) | (apply st_cell (hM := hM); rfl; rfl; rfl; (first | (focus (go_simp; done)) | (focus (go_simp; rfl))); (repeat first | exact .head _ _ | apply Pick.tail); simp; rfl; (first | exact one3 | exact one39 | exact one22); intro w1 hM1; clear hM; (try simp only [q1, q2, q3] at hM1); (try rw [tab_setInt] at hM1);  have hM := hM1; clear hM1)); simp only [q0, q9, q1, q2, q3])
         go_meet
         case rel => exact ⟨-1, rfl, hM⟩
        | true =>
         obtain ⟨e8, ep⟩ := hb.out rfl
         obtain ⟨pm, rfl⟩ := Int.eq_ofNat_of_zero_le ep
         obtain ⟨g8, c8s, rfl, rfl, hc8, hcl8, hce8⟩ := hT8.inv e8
         obtain ⟨i, hi⟩ : ∃ i, Hid (i = pm % n8) := ⟨_, hid_ rfl⟩
         have hian : i < n8 := by rw [hi.out]; exact Nat.mod_lt _ e8
         have hmod : (pm : Int) % (n8 : Int) = (i : Int) := by rw [hi.out]; exact (Int.natCast_emod _ _).symm
         have hi0 : (0 : Int) ≤ (i : Int) := by omega
         have hi1 : (i : Int) < (n8 : Int) := by omega
         have hn8b : (n8 : Int) ≤ 100 := by have h1 := hF8.out; omega
         have hn8p : (0 : Int) < (n8 : Int) := by omega
         obtain ⟨z, hz8⟩ : ∃ z, Hid (c8s[i]? = some (.int .i64 z)) := by
          have h1 := hce8.out i (by omega)
          have h2 : i < F.length := by omega
          rw [List.getElem?_eq_getElem h2] at h1
          obtain ⟨z, hz⟩ := hFi.out _ (List.getElem_mem h2)
          exact ⟨z, hid_ (by rw [h1, hz])⟩
         go_wp2_with ((with_reducible refine wpl ?_); (first | (apply ld_one (hM := hM) (hv := hz8.out) (ht := one3); rfl; rfl; rfl; (repeat first | exact .head _ _ | apply Pick.tail)) | (apply st_row (hM := hM) (h1 := onec_one _ _ _) (ht := onec_row _ _ _); rfl; rfl; rfl; (first | (focus (go_simp; done)) | (focus (go_simp; rfl))); (repeat first | exact .head _ _ | apply Pick.tail); exact (onec_size _ _ _).trans (onec_size _ _ _).symm; clear hM; intro w1 hM) | (apply ld_row (hM := hM) (ht := onec_row _ _ _); rfl; rfl; rfl; (repeat first | exact .head _ _ | apply Pick.tail)) | (apply ld_one (hM := hM) (hv := onec_64) (ht := one3); rfl; rfl; rfl; (repeat first | exact .head _ _ | apply Pick.tail)) | (apply st_cell (hM := hM) (i := 64) (ht := one3); rfl; rfl; rfl; (first | (focus (go_simp; done)) | (focus (go_simp; rfl))); (repeat first | exact .head _ _ | apply Pick.tail); (rw [onec_size]; decide); rfl; intro w1 hM1; clear hM; (rw [onec_hold] at hM1); have hM := hM1; clear hM1) | (apply al_box (hM := hM); rfl; rfl; (first | (focus (go_simp; done)) | (focus (go_simp; rfl))); clear hM; intro gb w1 hM; dsimp only [Value.cells] at hM) | (apply al_zero (hM := hM); rfl; rfl; (first | exact zero55 | exact zero58); clear hM; intro gz w1 hM; dsimp only [Value.cells] at hM) | (apply ld_row (hM := hM); rfl; rfl; rfl; (repeat first | exact .head _ _ | apply Pick.tail); (first | exact row55)) | (apply st_row (hM := hM); rfl; rfl; rfl; (first | (focus (go_simp; done)) | (focus (go_simp; rfl))); (repeat first | exact .head _ _ | apply Pick.tail); rfl; rfl; (first | exact row55); intro w1 hM1; clear hM; (try simp only [q1, q2, q3] at hM1); (try rw [tab_setInt] at hM1);  have hM := hM1; clear hM1) | (apply ld_one (hM := hM); rfl; rfl; rfl; (repeat first | exact .head _ _ | apply Pick.tail); rfl; (first | exact one3 | exact one39 | exact one22)) | (apply st_cell (hM := hM); rfl; rfl; rfl; (first | (focus (go_simp; done)) | (focus (go_simp; rfl))); (repeat first | exact .head _ _ | apply Pick.tail); simp; rfl; (first | exact one3 | exact one39 | exact one22); intro w1 hM1; clear hM; (try simp only [q1, q2, q3] at hM1); (try rw [tab_setInt] at hM1);  have hM := hM1; clear hM1)); simp only [q0, q9, q1, q2, q3])
         go_meet
         case rel => exact ⟨z, rfl, hM⟩
       case rest =>
        obtain ⟨id1, rfl, hM1⟩ := hcut
        clear hM hb
        have hM := hM1
        clear hM1
        go_upto_if 80 with (first | ((with_reducible refine wpl ?_); apply st_row (hM := hM) (h1 := onec_one _ _ _) (ht := onec_row _ _ _); rfl; rfl; rfl; (first | (focus (go_simp; done)) | (focus (go_simp; rfl))); (repeat first | exact .head _ _ | apply Pick.tail); exact (onec_size _ _ _).trans (onec_size _ _ _).symm; clear hM; intro w1 hM; simp only [q0, q9, q1, q2, q3]) | ((with_reducible refine wpl ?_); apply ld_row (hM := hM) (ht := onec_row _ _ _); rfl; rfl; rfl; (repeat first | exact .head _ _ | apply Pick.tail); simp only [q0, q9, q1, q2, q3]) | ((with_reducible refine wpl ?_); apply ld_one (hM := hM) (hv := onec_64) (ht := one3); rfl; rfl; rfl; (repeat first | exact .head _ _ | apply Pick.tail); simp only [q0, q9, q1, q2, q3]) | ((with_reducible refine wpl ?_); apply st_cell (hM := hM) (i := 64) (ht := one3); rfl; rfl; rfl; (first | (focus (go_simp; done)) | (focus (go_simp; rfl))); (repeat first | exact .head _ _ | apply Pick.tail); (rw [onec_size]; decide); rfl; intro w1 hM1; clear hM; (rw [onec_hold] at hM1); have hM := hM1; clear hM1; simp only [q0, q9, q1, q2, q3]) | ((with_reducible refine wpl ?_); apply al_box (hM := hM); rfl; rfl; (first | (focus (go_simp; done)) | (focus (go_simp; rfl))); clear hM; intro gb w1 hM; dsimp only [Value.cells] at hM; simp only [q0, q9, q1, q2, q3]) | ((with_reducible refine wpl ?_); apply al_zero (hM := hM); rfl; rfl; (first | exact zero55 | exact zero58); clear hM; intro gz w1 hM; dsimp only [Value.cells] at hM; simp only [q0, q9, q1, q2, q3]) | ((with_reducible refine wpl ?_); apply ld_row (hM := hM); rfl; rfl; rfl; (repeat first | exact .head _ _ | apply Pick.tail); (first | exact row55); simp only [q0, q9, q1, q2, q3]) | ((with_reducible refine wpl ?_); apply st_row (hM := hM); rfl; rfl; rfl; (first | (focus (go_simp; done)) | (focus (go_simp; rfl))); (repeat first | exact .head _ _ | apply Pick.tail); rfl; rfl; (first | exact row55); intro w1 hM1; clear hM; (try simp only [q1, q2, q3] at hM1); (try rw [tab_setInt] at hM1);  have hM := hM1; clear hM1; simp only [q0, q9, q1, q2, q3]) | ((with_reducible refine wpl ?_); apply ld_one (hM := hM); rfl; rfl; rfl; (repeat first | exact .head _ _ | apply Pick.tail); rfl; (first | exact one3 | exact one39 | exact one22); simp only [q0, q9, q1, q2, q3]) | ((with_reducible refine wpl ?_); apply st_cell (hM := hM); rfl; rfl; rfl; (first | (focus (go_simp; done)) | (focus (go_simp; rfl))); (repeat first | exact .head _ _ | apply Pick.tail); simp; rfl; (first | exact one3 | exact one39 | exact one22); intro w1 hM1; clear hM; (try simp only [q1, q2, q3] at hM1); (try rw [tab_setInt] at hM1);  have hM := hM1; clear hM1; simp only [q0, q9, q1, q2, q3]))
        go_cut [11] from 78 to 82 (fun x11 wx => ∃ id : Int, x11 = .int .i64 id ∧ Mem ⟨w, [(gm, .map es clk)]⟩ wx (arena p ss) (⟨gz, #[.int .i64 ok_, .int .i64 op_, .int .i64 oa_, .int .i64 on_, .int .i64 or_, .slice tb td.length tc], 55, (0, 0)⟩ :: R8))
        case first =>
         by_cases er : 0 < or_
         · have f1 : decide (or_ > 0) = true := decide_eq_true er
           go_wp2_with ((with_reducible refine wpl ?_); (first | (apply st_row (hM := hM) (h1 := onec_one _ _ _) (ht := onec_row _ _ _); rfl; rfl; rfl; (first | (focus (go_simp; done)) | (focus (go_simp; rfl))); (repeat first | exact .head _ _ | apply Pick.tail); exact (onec_size _ _ _).trans (onec_size _ _ _).symm; clear hM; intro w1 hM) | (apply ld_row (hM := hM) (ht := onec_row _ _ _); rfl; rfl; rfl; (repeat first | exact .head _ _ | apply Pick.tail)) | (apply ld_one (hM := hM) (hv := onec_64) (ht := one3); rfl; rfl; rfl; (repeat first | exact .head _ _ | apply Pick.tail)) | (apply st_cell (hM := hM) (i := 64) (ht := one3); rfl; rfl; rfl; (first | (focus (go_simp; done)) | (focus (go_simp; rfl))); (repeat first | exact .head _ _ | apply Pick.tail); (rw [onec_size]; decide); rfl; intro w1 hM1; clear hM; (rw [onec_hold] at hM1); have hM := hM1; clear hM1) | (apply al_box (hM := hM); rfl; rfl; (first | (focus (go_simp; done)) | (focus (go_simp; rfl))); clear hM; intro gb w1 hM; dsimp only [Value.cells] at hM) | (apply al_zero (hM := hM); rfl; rfl; (first | exact zero55 | exact zero58); clear hM; intro gz w1 hM; dsimp only [Value.cells] at hM) | (apply ld_row (hM := hM); rfl; rfl; rfl; (repeat first | exact .head _ _ | apply Pick.tail); (first | exact row55)) | (apply st_row (hM := hM); rfl; rfl; rfl; (first | (focus (go_simp; done)) | (focus (go_simp; rfl))); (repeat first | exact .head _ _ | apply Pick.tail); rfl; rfl; (first | exact row55); intro w1 hM1; clear hM; (try simp only [q1, q2, q3] at hM1); (try rw [tab_setInt] at hM1);  have hM := hM1; clear hM1) | (apply ld_one (hM := hM); rfl; rfl; rfl; (repeat first | exact .head _ _ | apply Pick.tail); rfl; (first | exact one3 | exact one39 | exact one22)) | (apply st_cell (hM := hM); rfl; rfl; rfl; (first | (focus (go_simp; done)) | (focus (go_simp; rfl))); (repeat first | exact .head _ _ | apply Pick.tail); simp; rfl; (first | exact one3 | exact one39 | exact one22); intro w1 hM1; clear hM; (try simp only [q1, q2, q3] at hM1); (try rw [tab_setInt] at hM1);  have hM := hM1; clear hM1)); simp only [q0, q9, q1, q2, q3])
           go_meet
           case rel => exact ⟨or_, rfl, hM⟩
         · have f1 : decide (or_ > 0) = false := decide_eq_false er
           go_wp2_with ((with_reducible refine wpl ?_); (first | (apply st_row (hM := hM) (h1 := onec_one _ _ _) (ht := onec_row _ _ _); rfl; rfl; rfl; (first | (focus (go_simp; done)) | (focus (go_simp; rfl))); (repeat first | exact .head _ _ | apply Pick.tail); exact (onec_size _ _ _).trans (onec_size _ _ _).symm; clear hM; intro w1 hM) | (apply ld_row (hM := hM) (ht := onec_row _ _ _); rfl; rfl; rfl; (repeat first | exact .head _ _ | apply Pick.tail)) | (apply ld_one (hM := hM) (hv := onec_64) (ht := one3); rfl; rfl; rfl; (repeat first | exact .head _ _ | apply Pick.tail)) | (apply st_cell (hM := hM) (i := 64) (ht := one3); rfl; rfl; rfl; (first | (focus (go_simp; done)) | (focus (go_simp; rfl))); (repeat first | exact .head _ _ | apply Pick.tail); (rw [onec_size]; decide); rfl; intro w1 hM1; clear hM; (rw [onec_hold] at hM1); have hM := hM1; clear hM1) | (apply al_box (hM := hM); rfl; rfl; (first | (focus (go_simp; done)) | (focus (go_simp; rfl))); clear hM; intro gb w1 hM; dsimp only [Value.cells] at hM) | (apply al_zero (hM := hM); rfl; rfl; (first | exact zero55 | exact zero58); clear hM; intro gz w1 hM; dsimp only [Value.cells] at hM) | (apply ld_row (hM := hM); rfl; rfl; rfl; (repeat first | exact .head _ _ | apply Pick.tail); (first | exact row55)) | (apply st_row (hM := hM); rfl; rfl; rfl; (first | (focus (go_simp; done)) | (focus (go_simp; rfl))); (repeat first | exact .head _ _ | apply Pick.tail); rfl; rfl; (first | exact row55); intro w1 hM1; clear hM; (try simp only [q1, q2, q3] at hM1); (try rw [tab_setInt] at hM1);  have hM := hM1; clear hM1) | (apply ld_one (hM := hM); rfl; rfl; rfl; (repeat first | exact .head _ _ | apply Pick.tail); rfl; (first | exact one3 | exact one39 | exact one22)) | (apply st_cell (hM := hM); rfl; rfl; rfl; (first | (focus (go_simp; done)) | (focus (go_simp; rfl))); (repeat first | exact .head _ _ | apply Pick.tail); simp; rfl; (first | exact one3 | exact one39 | exact one22); intro w1 hM1; clear hM; (try simp only [q1, q2, q3] at hM1); (try rw [tab_setInt] at hM1);  have hM := hM1; clear hM1)); simp only [q0, q9, q1, q2, q3])
           go_meet
           case rel => exact ⟨id1, rfl, hM⟩
        case rest =>
         obtain ⟨id, rfl, hM1⟩ := hcut
         clear hM
         have hM := hM1
         clear hM1
         obtain ⟨gO, rfl⟩ : ∃ g : Nat, g = gz := ⟨_, rfl⟩
         by_cases hkn : ∀ q ∈ T, (q : Int) ≠ id
         · have hnh : Hid (¬ Held p ss id) := hid_ (inv.held hkn)
           go_upto_region 21 with (first | ((with_reducible refine wpl ?_); apply mp_look_no (hM := hM) (hE := hE) (hk := ents_ne hkn) (ht := und53) (hkt := und3) (hz := zero58); rfl; rfl; rfl; rfl; simp only [q0, q9, q1, q2, q3]) | ((with_reducible refine wpl ?_); apply st_row (hM := hM) (h1 := onec_one _ _ _) (ht := onec_row _ _ _); rfl; rfl; rfl; (first | (focus (go_simp; done)) | (focus (go_simp; rfl))); (repeat first | exact .head _ _ | apply Pick.tail); exact (onec_size _ _ _).trans (onec_size _ _ _).symm; clear hM; intro w1 hM; simp only [q0, q9, q1, q2, q3]) | ((with_reducible refine wpl ?_); apply ld_row (hM := hM) (ht := onec_row _ _ _); rfl; rfl; rfl; (repeat first | exact .head _ _ | apply Pick.tail); simp only [q0, q9, q1, q2, q3]) | ((with_reducible refine wpl ?_); apply ld_one (hM := hM) (hv := onec_64) (ht := one3); rfl; rfl; rfl; (repeat first | exact .head _ _ | apply Pick.tail); simp only [q0, q9, q1, q2, q3]) | ((with_reducible refine wpl ?_); apply st_cell (hM := hM) (i := 64) (ht := one3); rfl; rfl; rfl; (first | (focus (go_simp; done)) | (focus (go_simp; rfl))); (repeat first | exact .head _ _ | apply Pick.tail); (rw [onec_size]; decide); rfl; intro w1 hM1; clear hM; (rw [onec_hold] at hM1); have hM := hM1; clear hM1; simp only [q0, q9, q1, q2, q3]) | ((with_reducible refine wpl ?_); apply al_box (hM := hM); rfl; rfl; (first | (focus (go_simp; done)) | (focus (go_simp; rfl))); clear hM; intro gb w1 hM; dsimp only [Value.cells] at hM; simp only [q0, q9, q1, q2, q3]) | ((with_reducible refine wpl ?_); apply al_zero (hM := hM); rfl; rfl; (first | exact zero55 | exact zero58); clear hM; intro gz w1 hM; dsimp only [Value.cells] at hM; simp only [q0, q9, q1, q2, q3]) | ((with_reducible refine wpl ?_); apply ld_row (hM := hM); rfl; rfl; rfl; (repeat first | exact .head _ _ | apply Pick.tail); (first | exact row55); simp only [q0, q9, q1, q2, q3]) | ((with_reducible refine wpl ?_); apply st_row (hM := hM); rfl; rfl; rfl; (first | (focus (go_simp; done)) | (focus (go_simp; rfl))); (repeat first | exact .head _ _ | apply Pick.tail); rfl; rfl; (first | exact row55); intro w1 hM1; clear hM; (try simp only [q1, q2, q3] at hM1); (try rw [tab_setInt] at hM1);  have hM := hM1; clear hM1; simp only [q0, q9, q1, q2, q3]) | ((with_reducible refine wpl ?_); apply ld_one (hM := hM); rfl; rfl; rfl; (repeat first | exact .head _ _ | apply Pick.tail); rfl; (first | exact one3 | exact one39 | exact one22); simp only [q0, q9, q1, q2, q3]) | ((with_reducible refine wpl ?_); apply st_cell (hM := hM); rfl; rfl; rfl; (first | (focus (go_simp; done)) | (focus (go_simp; rfl))); (repeat first | exact .head _ _ | apply Pick.tail); simp; rfl; (first | exact one3 | exact one39 | exact one22); intro w1 hM1; clear hM; (try simp only [q1, q2, q3] at hM1); (try rw [tab_setInt] at hM1);  have hM := hM1; clear hM1; simp only [q0, q9, q1, q2, q3]))
           obtain ⟨gx, rfl⟩ : ∃ g : Nat, g = gz := ⟨_, rfl⟩
           by_cases k0 : ok_ = 0
           · as_aux_lemma =>
              have s0 : (ok_ == 0) = true := beq_iff_eq.2 k0
              clear k0
              rcases Nat.eq_zero_or_pos ss.m with hm0 | hmp
              · as_aux_lemma =>
                 go_wp2_with ((with_reducible refine wpl ?_); (first | (apply ld_row (hM := hM) (ht := onec_row _ _ _); rfl; rfl; rfl; (repeat first | exact .head _ _ | apply Pick.tail)) | (apply ld_one (hM := hM) (hv := onec_64) (ht := one3); rfl; rfl; rfl; (repeat first | exact .head _ _ | apply Pick.tail)) | (apply st_cell (hM := hM) (i := 64) (ht := one3); rfl; rfl; rfl; (first | (focus (go_simp; done)) | (focus (go_simp; rfl))); (repeat first | exact .head _ _ | apply Pick.tail); (rw [onec_size]; decide); rfl; intro w1 hM1; clear hM; (rw [onec_hold] at hM1); have hM := hM1; clear hM1) | (apply ld_one (hM := hM); rfl; rfl; rfl; (repeat first | exact .head _ _ | apply Pick.tail); rfl; (first | exact one3 | exact one22))); simp only [q0, q9, q1, q2, q3])
                 refine (take_none hM hm0).mono ?_
                 clear hM
                 rintro e w3 ⟨rfl, hM⟩
                 have hl : Hid ((ents ss T).length = n0) := hid_ (by rw [ents_len]; have h1 := inv.all; have h2 := hn.out; omega)
                 have hl2 : ¬ (ents ss T).length < n0 := by have := hl.out; omega
                 clear hm0
                 go_wp2_with ((with_reducible refine wpl ?_); (first | (apply mp_len (hM := hM) (hE := hE) (ht := und53); rfl; rfl; rfl) | (apply ld_row (hM := hM) (ht := onec_row _ _ _); rfl; rfl; rfl; (repeat first | exact .head _ _ | apply Pick.tail)) | (apply ld_one (hM := hM) (hv := onec_64) (ht := one3); rfl; rfl; rfl; (repeat first | exact .head _ _ | apply Pick.tail)) | (apply st_cell (hM := hM) (i := 64) (ht := one3); rfl; rfl; rfl; (first | (focus (go_simp; done)) | (focus (go_simp; rfl))); (repeat first | exact .head _ _ | apply Pick.tail); (rw [onec_size]; decide); rfl; intro w1 hM1; clear hM; (rw [onec_hold] at hM1); have hM := hM1; clear hM1) | (apply ld_one (hM := hM); rfl; rfl; rfl; (repeat first | exact .head _ _ | apply Pick.tail); rfl; (first | exact one3 | exact one22))); simp only [q0, q9, q1, q2, q3])
                 go_roundg (gk - 1)
                 case measure => have := hgk.out; omega
                 case rel => exact ⟨j + 1, ss, T, es, clk, F, R8, hid_ (by have := hgk.out; omega), by go_num, ok2, (inv.le' (Nat.le_succ j)), hE, hT8, hid_ (by have := hF8.out; omega), hFi, hM.tail.tail⟩
              · as_aux_lemma =>
                 go_wp2_with ((with_reducible refine wpl ?_); (first | (apply ld_row (hM := hM) (ht := onec_row _ _ _); rfl; rfl; rfl; (repeat first | exact .head _ _ | apply Pick.tail)) | (apply ld_one (hM := hM) (hv := onec_64) (ht := one3); rfl; rfl; rfl; (repeat first | exact .head _ _ | apply Pick.tail)) | (apply st_cell (hM := hM) (i := 64) (ht := one3); rfl; rfl; rfl; (first | (focus (go_simp; done)) | (focus (go_simp; rfl))); (repeat first | exact .head _ _ | apply Pick.tail); (rw [onec_size]; decide); rfl; intro w1 hM1; clear hM; (rw [onec_hold] at hM1); have hM := hM1; clear hM1) | (apply ld_one (hM := hM); rfl; rfl; rfl; (repeat first | exact .head _ _ | apply Pick.tail); rfl; (first | exact one3 | exact one22))); simp only [q0, q9, q1, q2, q3])
                 refine (take hM ok2 hmp).mono ?_
                 clear hM
                 rintro e w3 ⟨k0, s2, rfl, hM, ok3, hk0, h0, hD2, hH2, hm2⟩
                 have hl2 : (ents ss T).length < n0 := by rw [ents_len]; have h1 := inv.all; have h2 := hn.out; omega
                 obtain ⟨hk0T, inv2, hents⟩ := inv.take hk0 h0 hD2 hH2 hm2
                 have hne0 : ∀ q ∈ T, (q : Int) ≠ (k0 : Int) := fun q hq e => hk0T (by rw [← Int.ofNat_inj.1 e]; exact hq)
                 replace hents := hid_ hents
                 clear hD2 hH2 hm2 h0 hmp
                 have hk0a : decide ((k0 : Int) < 0) = false := decide_eq_false (by omega)
                 have hk0b : ¬ n0 ≤ k0 := by have := hn.out; omega
                 go_wp2_with ((with_reducible refine wpl ?_); (first | (apply mp_len (hM := hM) (hE := hE) (ht := und53); rfl; rfl; rfl) | (apply mp_look_no (hM := hM) (hE := hE) (hk := ents_ne hne0) (ht := und53) (hkt := und3) (hz := zero58); rfl; rfl; rfl; rfl) | (apply any_val (v := .agg (onec (fun _ => 0) 0 1)); rfl; exact build58 _ rfl) | (apply mp_new (hM := hM) (v := .agg (onec (fun _ => 0) 0 1)) (hne := hne) (hE := hE) (k := (k0 : Nat)) (hk := ents_ne hne0) (ht := und53) (hkt := und3); rfl; rfl; rfl; rfl; rfl; clear hM; intro es2 clk2 w1 hE2 hM) | (apply al_one (hM := hM) (v := .int .i64 (k0 : Nat)) (ht := sl39); rfl; rfl; rfl; rfl; clear hM; intro gq w1 hM) | (apply tb_app_p (hM := hM) (hT := hT8) (es := [.int .i64 (k0 : Nat)]) (A := [⟨gz, onec (fun _ => 0) 0 0, 58, (0, 0)⟩, ⟨gx, onec (fun _ => 0) 0 0, 58, (0, 0)⟩, ⟨gO, #[.int .i64 ok_, .int .i64 op_, .int .i64 oa_, .int .i64 on_, .int .i64 or_, .slice tb td.length tc], 55, (0, 0)⟩]) (ht := sl39); rfl; rfl; rfl; exact List.Perm.refl _; rfl; rfl; rfl; rfl; decide; (have := hF8.out; omega); (have := hF8.out; omega); intro g c n cells w1 hn1 hT81 hM1; clear hM; simp only [List.cons_append, List.nil_append] at hM1; have hM := hM1; clear hM1) | (apply st_row (hM := hM) (h1 := onec_one _ _ _) (ht := onec_row _ _ _); rfl; rfl; rfl; (first | (focus (go_simp; done)) | (focus (go_simp; rfl))); (repeat first | exact .head _ _ | apply Pick.tail); exact (onec_size _ _ _).trans (onec_size _ _ _).symm; clear hM; intro w1 hM) | (apply ld_row (hM := hM) (ht := onec_row _ _ _); rfl; rfl; rfl; (repeat first | exact .head _ _ | apply Pick.tail)) | (apply ld_one (hM := hM) (hv := onec_64) (ht := one3); rfl; rfl; rfl; (repeat first | exact .head _ _ | apply Pick.tail)) | (apply st_cell (hM := hM) (i := 64) (ht := one3); rfl; rfl; rfl; (first | (focus (go_simp; done)) | (focus (go_simp; rfl))); (repeat first | exact .head _ _ | apply Pick.tail); (rw [onec_size]; decide); rfl; intro w1 hM1; clear hM; (rw [onec_hold] at hM1); have hM := hM1; clear hM1) | (apply al_box (hM := hM); rfl; rfl; (first | (focus (go_simp; done)) | (focus (go_simp; rfl))); clear hM; intro gb w1 hM; dsimp only [Value.cells] at hM) | (apply al_zero (hM := hM); rfl; rfl; (first | exact zero55 | exact zero58); clear hM; intro gz w1 hM; dsimp only [Value.cells] at hM) | (apply ld_row (hM := hM); rfl; rfl; rfl; (repeat first | exact .head _ _ | apply Pick.tail); (first | exact row55)) | (apply st_row (hM := hM); rfl; rfl; rfl; (first | (focus (go_simp; done)) | (focus (go_simp; rfl))); (repeat first | exact .head _ _ | apply Pick.tail); rfl; rfl; (first | exact row55); intro w1 hM1; clear hM; (try simp only [q1, q2, q3] at hM1); (try rw [tab_setInt] at hM1);  have hM := hM1; clear hM1) | (apply ld_one (hM := hM); rfl; rfl; rfl; (repeat first | exact .head _ _ | apply Pick.tail); rfl; (first | exact one3 | exact one39 | exact one22)) | (apply st_cell (hM := hM); rfl; rfl; rfl; (first | (focus (go_simp; done)) | (focus (go_simp; rfl))); (repeat first | exact .head _ _ | apply Pick.tail); simp; rfl; (first | exact one3 | exact one39 | exact one22); intro w1 hM1; clear hM; (try simp only [q1, q2, q3] at hM1); (try rw [tab_setInt] at hM1);  have hM := hM1; clear hM1)); simp only [q0, q9, q1, q2, q3])
                 rw [hents.out] at hE2
                 go_roundg (gk - 1)
                 case measure => have := hgk.out; omega
                 case rel => exact ⟨j + 1, s2, (T ++ [k0]), es2, clk2, _, _, hid_ (by have := hgk.out; omega), by go_num, ok3, inv2, hE2, hT81, hid_ (by rw [List.length_append, List.length_singleton]; have := hF8.out; omega), hid_ (fun v hv => by rcases List.mem_append.1 hv with h | h; exact hFi.out v h; exact ⟨_, List.mem_singleton.1 h⟩), hM.tail.tail.tail⟩
           by_cases k1 : ok_ = 1
           · as_aux_lemma =>
              have s0 : (ok_ == 0) = false := beq_eq_false_iff_ne.2 k0
              have s1 : (ok_ == 1) = true := beq_iff_eq.2 k1
              clear k0
              clear k1
              go_wp2_with ((with_reducible refine wpl ?_); (first | (apply ld_row (hM := hM) (ht := onec_row _ _ _); rfl; rfl; rfl; (repeat first | exact .head _ _ | apply Pick.tail)) | (apply ld_one (hM := hM) (hv := onec_64) (ht := one3); rfl; rfl; rfl; (repeat first | exact .head _ _ | apply Pick.tail)) | (apply st_cell (hM := hM) (i := 64) (ht := one3); rfl; rfl; rfl; (first | (focus (go_simp; done)) | (focus (go_simp; rfl))); (repeat first | exact .head _ _ | apply Pick.tail); (rw [onec_size]; decide); rfl; intro w1 hM1; clear hM; (rw [onec_hold] at hM1); have hM := hM1; clear hM1) | (apply ld_one (hM := hM); rfl; rfl; rfl; (repeat first | exact .head _ _ | apply Pick.tail); rfl; (first | exact one3 | exact one22))); simp only [q0, q9, q1, q2, q3])
              refine (write_no hM id hnh ok2.n_le _ _ _ _).mono ?_
              clear hM
              rintro e w3 ⟨rfl, hM⟩
              go_upto_region 34 with (first | ((with_reducible refine wpl ?_); apply ld_row (hM := hM) (ht := onec_row _ _ _); rfl; rfl; rfl; (repeat first | exact .head _ _ | apply Pick.tail); simp only [q0, q9, q1, q2, q3]) | ((with_reducible refine wpl ?_); apply ld_one (hM := hM) (hv := onec_64) (ht := one3); rfl; rfl; rfl; (repeat first | exact .head _ _ | apply Pick.tail); simp only [q0, q9, q1, q2, q3]) | ((with_reducible refine wpl ?_); apply st_cell (hM := hM) (i := 64) (ht := one3); rfl; rfl; rfl; (first | (focus (go_simp; done)) | (focus (go_simp; rfl))); (repeat first | exact .head _ _ | apply Pick.tail); (rw [onec_size]; decide); rfl; intro w1 hM1; clear hM; (rw [onec_hold] at hM1); have hM := hM1; clear hM1; simp only [q0, q9, q1, q2, q3]) | ((with_reducible refine wpl ?_); apply ld_one (hM := hM); rfl; rfl; rfl; (repeat first | exact .head _ _ | apply Pick.tail); rfl; (first | exact one3 | exact one22); simp only [q0, q9, q1, q2, q3]))
              go_cut [19] from 147 to 162 (fun xg wx => ∃ b : Bool, xg = .bool b ∧ Hid (b = true → 0 ≤ oa_ ∧ oa_ ≤ 64 ∧ (td.length : Int) ≤ 64 - oa_) ∧ Mem ⟨w, [(gm, .map es clk)]⟩ wx (arena p ss) (⟨gx, onec (fun _ => 0) 0 0, 58, (0, 0)⟩ :: ⟨gO, #[.int .i64 ok_, .int .i64 op_, .int .i64 oa_, .int .i64 on_, .int .i64 or_, .slice tb td.length tc], 55, (0, 0)⟩ :: R8))
              case first =>
               by_cases g0 : 0 ≤ oa_
               · have f0 : decide (oa_ ≥ 0) = true := decide_eq_true g0
                 by_cases g1 : oa_ ≤ 64
                 · have f1 : decide (oa_ ≤ 64) = true := decide_eq_true g1
                   have hwr : IntKind.i64.wrap (64 - oa_) = 64 - oa_ := IntWalk.i64_in _ (by omega)
                   by_cases g2 : (td.length : Int) ≤ 64 - oa_
                   · have f2 : decide ((td.length : Int) ≤ 64 - oa_) = true := decide_eq_true g2
                     go_wp2_with ((with_reducible refine wpl ?_); (first | (apply ld_row (hM := hM) (ht := onec_row _ _ _); rfl; rfl; rfl; (repeat first | exact .head _ _ | apply Pick.tail)) | (apply ld_one (hM := hM) (hv := onec_64) (ht := one3); rfl; rfl; rfl; (repeat first | exact .head _ _ | apply Pick.tail)) | (apply st_cell (hM := hM) (i := 64) (ht := one3); rfl; rfl; rfl; (first | (focus (go_simp; done)) | (focus (go_simp; rfl))); (repeat first | exact .head _ _ | apply Pick.tail); (rw [onec_size]; decide); rfl; intro w1 hM1; clear hM; (rw [onec_hold] at hM1); have hM := hM1; clear hM1) | (apply ld_one (hM := hM); rfl; rfl; rfl; (repeat first | exact .head _ _ | apply Pick.tail); rfl; (first | exact one3 | exact one22))); simp only [q0, q9, q1, q2, q3])
                     go_meet
                     case rel => exact ⟨true, rfl, hid_ (fun _ => ⟨g0, g1, g2⟩), hM⟩
                   · have f2 : decide ((td.length : Int) ≤ 64 - oa_) = false := decide_eq_false g2
                     go_wp2_with ((with_reducible refine wpl ?_); (first | (apply ld_row (hM := hM) (ht := onec_row _ _ _); rfl; rfl; rfl; (repeat first | exact .head _ _ | apply Pick.tail)) | (apply ld_one (hM := hM) (hv := onec_64) (ht := one3); rfl; rfl; rfl; (repeat first | exact .head _ _ | apply Pick.tail)) | (apply st_cell (hM := hM) (i := 64) (ht := one3); rfl; rfl; rfl; (first | (focus (go_simp; done)) | (focus (go_simp; rfl))); (repeat first | exact .head _ _ | apply Pick.tail); (rw [onec_size]; decide); rfl; intro w1 hM1; clear hM; (rw [onec_hold] at hM1); have hM := hM1; clear hM1) | (apply ld_one (hM := hM); rfl; rfl; rfl; (repeat first | exact .head _ _ | apply Pick.tail); rfl; (first | exact one3 | exact one22))); simp only [q0, q9, q1, q2, q3])
                     go_meet
                     case rel => exact ⟨false, rfl, hid_ (fun h => absurd h (by decide)), hM⟩
                 · have f1 : decide (oa_ ≤ 64) = false := decide_eq_false g1
                   go_wp2_with ((with_reducible refine wpl ?_); (first | (apply ld_row (hM := hM) (ht := onec_row _ _ _); rfl; rfl; rfl; (repeat first | exact .head _ _ | apply Pick.tail)) | (apply ld_one (hM := hM) (hv := onec_64) (ht := one3); rfl; rfl; rfl; (repeat first | exact .head _ _ | apply Pick.tail)) | (apply st_cell (hM := hM) (i := 64) (ht := one3); rfl; rfl; rfl; (first | (focus (go_simp; done)) | (focus (go_simp; rfl))); (repeat first | exact .head _ _ | apply Pick.tail); (rw [onec_size]; decide); rfl; intro w1 hM1; clear hM; (rw [onec_hold] at hM1); have hM := hM1; clear hM1) | (apply ld_one (hM := hM); rfl; rfl; rfl; (repeat first | exact .head _ _ | apply Pick.tail); rfl; (first | exact one3 | exact one22))); simp only [q0, q9, q1, q2, q3])
                   go_meet
                   case rel => exact ⟨false, rfl, hid_ (fun h => absurd h (by decide)), hM⟩
               · have f0 : decide (oa_ ≥ 0) = false := decide_eq_false g0
                 go_wp2_with ((with_reducible refine wpl ?_); (first | (apply ld_row (hM := hM) (ht := onec_row _ _ _); rfl; rfl; rfl; (repeat first | exact .head _ _ | apply Pick.tail)) | (apply ld_one (hM := hM) (hv := onec_64) (ht := one3); rfl; rfl; rfl; (repeat first | exact .head _ _ | apply Pick.tail)) | (apply st_cell (hM := hM) (i := 64) (ht := one3); rfl; rfl; rfl; (first | (focus (go_simp; done)) | (focus (go_simp; rfl))); (repeat first | exact .head _ _ | apply Pick.tail); (rw [onec_size]; decide); rfl; intro w1 hM1; clear hM; (rw [onec_hold] at hM1); have hM := hM1; clear hM1) | (apply ld_one (hM := hM); rfl; rfl; rfl; (repeat first | exact .head _ _ | apply Pick.tail); rfl; (first | exact one3 | exact one22))); simp only [q0, q9, q1, q2, q3])
                 go_meet
                 case rel => exact ⟨false, rfl, hid_ (fun h => absurd h (by decide)), hM⟩
              case rest =>
               obtain ⟨bg, rfl, hbg, hM1⟩ := hcut
               clear hM
               have hM := hM1
               clear hM1
               obtain ⟨tl, htl⟩ : ∃ tl : Nat, (ents ss T).length = tl := ⟨_, rfl⟩
               have hall : Hid ((ss.m : Int) = (n0 : Int) - (tl : Int)) := hid_ (by have h1 := inv.all; have h2 := hn.out; rw [ents_len] at htl; omega)
               have htlb : (tl : Int) ≤ (n0 : Int) := by have h1 := inv.all; have h2 := hn.out; rw [ents_len] at htl; omega
               have hwr0 : IntKind.i64.wrap ((n0 : Int) - (tl : Int)) = (n0 : Int) - (tl : Int) := IntWalk.i64_in _ (by omega)
               go_wp2_with ((with_reducible refine wpl ?_); (first | (apply ld_row (hM := hM) (ht := onec_row _ _ _); rfl; rfl; rfl; (repeat first | exact .head _ _ | apply Pick.tail)) | (apply ld_one (hM := hM) (hv := onec_64) (ht := one3); rfl; rfl; rfl; (repeat first | exact .head _ _ | apply Pick.tail)) | (apply st_cell (hM := hM) (i := 64) (ht := one3); rfl; rfl; rfl; (first | (focus (go_simp; done)) | (focus (go_simp; rfl))); (repeat first | exact .head _ _ | apply Pick.tail); (rw [onec_size]; decide); rfl; intro w1 hM1; clear hM; (rw [onec_hold] at hM1); have hM := hM1; clear hM1) | (apply ld_one (hM := hM); rfl; rfl; rfl; (repeat first | exact .head _ _ | apply Pick.tail); rfl; (first | exact one3 | exact one22))); simp only [q0, q9, q1, q2, q3])
               refine (free hM ok2 ((n0 : Int) - (tl : Int)) hall.out).mono ?_
               clear hM
               rintro e w3 ⟨rfl, hM⟩
               go_wp2_with ((with_reducible refine wpl ?_); (first | (apply mp_len (hM := hM) (hE := hE) (ht := und53); rfl; rfl; rfl) | (apply ld_row (hM := hM) (ht := onec_row _ _ _); rfl; rfl; rfl; (repeat first | exact .head _ _ | apply Pick.tail)) | (apply ld_one (hM := hM) (hv := onec_64) (ht := one3); rfl; rfl; rfl; (repeat first | exact .head _ _ | apply Pick.tail)) | (apply st_cell (hM := hM) (i := 64) (ht := one3); rfl; rfl; rfl; (first | (focus (go_simp; done)) | (focus (go_simp; rfl))); (repeat first | exact .head _ _ | apply Pick.tail); (rw [onec_size]; decide); rfl; intro w1 hM1; clear hM; (rw [onec_hold] at hM1); have hM := hM1; clear hM1) | (apply ld_one (hM := hM); rfl; rfl; rfl; (repeat first | exact .head _ _ | apply Pick.tail); rfl; (first | exact one3 | exact one22))); simp only [q0, q9, q1, q2, q3])
               refine (len hM (n0 : Nat) (by rw [hn.out])).mono ?_
               clear hM
               rintro e w3 ⟨rfl, hM⟩
               go_wp2_with ((with_reducible refine wpl ?_); (first | (apply ld_row (hM := hM) (ht := onec_row _ _ _); rfl; rfl; rfl; (repeat first | exact .head _ _ | apply Pick.tail)) | (apply ld_one (hM := hM) (hv := onec_64) (ht := one3); rfl; rfl; rfl; (repeat first | exact .head _ _ | apply Pick.tail)) | (apply st_cell (hM := hM) (i := 64) (ht := one3); rfl; rfl; rfl; (first | (focus (go_simp; done)) | (focus (go_simp; rfl))); (repeat first | exact .head _ _ | apply Pick.tail); (rw [onec_size]; decide); rfl; intro w1 hM1; clear hM; (rw [onec_hold] at hM1); have hM := hM1; clear hM1) | (apply ld_one (hM := hM); rfl; rfl; rfl; (repeat first | exact .head _ _ | apply Pick.tail); rfl; (first | exact one3 | exact one22))); simp only [q0, q9, q1, q2, q3])
               go_roundg (gk - 1)
               case measure => have := hgk.out; omega
               case rel => exact ⟨j + 1, ss, T, es, clk, F, R8, hid_ (by have := hgk.out; omega), by go_num, ok2, (inv.le' (Nat.le_succ j)), hE, hT8, hid_ (by have := hF8.out; omega), hFi, hM.tail.tail⟩
           by_cases k2 : ok_ = 2
           · as_aux_lemma =>
              have s0 : (ok_ == 0) = false := beq_eq_false_iff_ne.2 k0
              have s1 : (ok_ == 1) = false := beq_eq_false_iff_ne.2 k1
              have s2 : (ok_ == 2) = true := beq_iff_eq.2 k2
              clear k0
              clear k1
              clear k2
              go_wp2_with ((with_reducible refine wpl ?_); (first | (apply ld_row (hM := hM) (ht := onec_row _ _ _); rfl; rfl; rfl; (repeat first | exact .head _ _ | apply Pick.tail)) | (apply ld_one (hM := hM) (hv := onec_64) (ht := one3); rfl; rfl; rfl; (repeat first | exact .head _ _ | apply Pick.tail)) | (apply st_cell (hM := hM) (i := 64) (ht := one3); rfl; rfl; rfl; (first | (focus (go_simp; done)) | (focus (go_simp; rfl))); (repeat first | exact .head _ _ | apply Pick.tail); (rw [onec_size]; decide); rfl; intro w1 hM1; clear hM; (rw [onec_hold] at hM1); have hM := hM1; clear hM1) | (apply ld_one (hM := hM); rfl; rfl; rfl; (repeat first | exact .head _ _ | apply Pick.tail); rfl; (first | exact one3 | exact one22))); simp only [q0, q9, q1, q2, q3])
              refine (hold_no hM id hnh ok2.n_le).mono ?_
              clear hM
              rintro e w3 ⟨rfl, hM⟩
              obtain ⟨tl, htl⟩ : ∃ tl : Nat, (ents ss T).length = tl := ⟨_, rfl⟩
              have hall : Hid ((ss.m : Int) = (n0 : Int) - (tl : Int)) := hid_ (by have h1 := inv.all; have h2 := hn.out; rw [ents_len] at htl; omega)
              have htlb : (tl : Int) ≤ (n0 : Int) := by have h1 := inv.all; have h2 := hn.out; rw [ents_len] at htl; omega
              have hwr0 : IntKind.i64.wrap ((n0 : Int) - (tl : Int)) = (n0 : Int) - (tl : Int) := IntWalk.i64_in _ (by omega)
              go_wp2_with ((with_reducible refine wpl ?_); (first | (apply ld_row (hM := hM) (ht := onec_row _ _ _); rfl; rfl; rfl; (repeat first | exact .head _ _ | apply Pick.tail)) | (apply ld_one (hM := hM) (hv := onec_64) (ht := one3); rfl; rfl; rfl; (repeat first | exact .head _ _ | apply Pick.tail)) | (apply st_cell (hM := hM) (i := 64) (ht := one3); rfl; rfl; rfl; (first | (focus (go_simp; done)) | (focus (go_simp; rfl))); (repeat first | exact .head _ _ | apply Pick.tail); (rw [onec_size]; decide); rfl; intro w1 hM1; clear hM; (rw [onec_hold] at hM1); have hM := hM1; clear hM1) | (apply ld_one (hM := hM); rfl; rfl; rfl; (repeat first | exact .head _ _ | apply Pick.tail); rfl; (first | exact one3 | exact one22))); simp only [q0, q9, q1, q2, q3])
              refine (free hM ok2 ((n0 : Int) - (tl : Int)) hall.out).mono ?_
              clear hM
              rintro e w3 ⟨rfl, hM⟩
              go_wp2_with ((with_reducible refine wpl ?_); (first | (apply mp_len (hM := hM) (hE := hE) (ht := und53); rfl; rfl; rfl) | (apply ld_row (hM := hM) (ht := onec_row _ _ _); rfl; rfl; rfl; (repeat first | exact .head _ _ | apply Pick.tail)) | (apply ld_one (hM := hM) (hv := onec_64) (ht := one3); rfl; rfl; rfl; (repeat first | exact .head _ _ | apply Pick.tail)) | (apply st_cell (hM := hM) (i := 64) (ht := one3); rfl; rfl; rfl; (first | (focus (go_simp; done)) | (focus (go_simp; rfl))); (repeat first | exact .head _ _ | apply Pick.tail); (rw [onec_size]; decide); rfl; intro w1 hM1; clear hM; (rw [onec_hold] at hM1); have hM := hM1; clear hM1) | (apply ld_one (hM := hM); rfl; rfl; rfl; (repeat first | exact .head _ _ | apply Pick.tail); rfl; (first | exact one3 | exact one22))); simp only [q0, q9, q1, q2, q3])
              refine (len hM (n0 : Nat) (by rw [hn.out])).mono ?_
              clear hM
              rintro e w3 ⟨rfl, hM⟩
              go_wp2_with ((with_reducible refine wpl ?_); (first | (apply ld_row (hM := hM) (ht := onec_row _ _ _); rfl; rfl; rfl; (repeat first | exact .head _ _ | apply Pick.tail)) | (apply ld_one (hM := hM) (hv := onec_64) (ht := one3); rfl; rfl; rfl; (repeat first | exact .head _ _ | apply Pick.tail)) | (apply st_cell (hM := hM) (i := 64) (ht := one3); rfl; rfl; rfl; (first | (focus (go_simp; done)) | (focus (go_simp; rfl))); (repeat first | exact .head _ _ | apply Pick.tail); (rw [onec_size]; decide); rfl; intro w1 hM1; clear hM; (rw [onec_hold] at hM1); have hM := hM1; clear hM1) | (apply ld_one (hM := hM); rfl; rfl; rfl; (repeat first | exact .head _ _ | apply Pick.tail); rfl; (first | exact one3 | exact one22))); simp only [q0, q9, q1, q2, q3])
              go_roundg (gk - 1)
              case measure => have := hgk.out; omega
              case rel => exact ⟨j + 1, ss, T, es, clk, F, R8, hid_ (by have := hgk.out; omega), by go_num, ok2, (inv.le' (Nat.le_succ j)), hE, hT8, hid_ (by have := hF8.out; omega), hFi, hM.tail.tail⟩
           by_cases k3 : ok_ = 3
           · as_aux_lemma =>
              have s0 : (ok_ == 0) = false := beq_eq_false_iff_ne.2 k0
              have s1 : (ok_ == 1) = false := beq_eq_false_iff_ne.2 k1
              have s2 : (ok_ == 2) = false := beq_eq_false_iff_ne.2 k2
              have s3 : (ok_ == 3) = true := beq_iff_eq.2 k3
              clear k0
              clear k1
              clear k2
              clear k3
              go_wp2_with ((with_reducible refine wpl ?_); (first | (apply ld_row (hM := hM) (ht := onec_row _ _ _); rfl; rfl; rfl; (repeat first | exact .head _ _ | apply Pick.tail)) | (apply ld_one (hM := hM) (hv := onec_64) (ht := one3); rfl; rfl; rfl; (repeat first | exact .head _ _ | apply Pick.tail)) | (apply st_cell (hM := hM) (i := 64) (ht := one3); rfl; rfl; rfl; (first | (focus (go_simp; done)) | (focus (go_simp; rfl))); (repeat first | exact .head _ _ | apply Pick.tail); (rw [onec_size]; decide); rfl; intro w1 hM1; clear hM; (rw [onec_hold] at hM1); have hM := hM1; clear hM1) | (apply ld_one (hM := hM); rfl; rfl; rfl; (repeat first | exact .head _ _ | apply Pick.tail); rfl; (first | exact one3 | exact one22))); simp only [q0, q9, q1, q2, q3])
              refine (drop_no hM id hnh ok2.n_le).mono ?_
              clear hM
              rintro e w3 ⟨rfl, hM⟩
              obtain ⟨tl, htl⟩ : ∃ tl : Nat, (ents ss T).length = tl := ⟨_, rfl⟩
              have hall : Hid ((ss.m : Int) = (n0 : Int) - (tl : Int)) := hid_ (by have h1 := inv.all; have h2 := hn.out; rw [ents_len] at htl; omega)
              have htlb : (tl : Int) ≤ (n0 : Int) := by have h1 := inv.all; have h2 := hn.out; rw [ents_len] at htl; omega
              have hwr0 : IntKind.i64.wrap ((n0 : Int) - (tl : Int)) = (n0 : Int) - (tl : Int) := IntWalk.i64_in _ (by omega)
              go_wp2_with ((with_reducible refine wpl ?_); (first | (apply ld_row (hM := hM) (ht := onec_row _ _ _); rfl; rfl; rfl; (repeat first | exact .head _ _ | apply Pick.tail)) | (apply ld_one (hM := hM) (hv := onec_64) (ht := one3); rfl; rfl; rfl; (repeat first | exact .head _ _ | apply Pick.tail)) | (apply st_cell (hM := hM) (i := 64) (ht := one3); rfl; rfl; rfl; (first | (focus (go_simp; done)) | (focus (go_simp; rfl))); (repeat first | exact .head _ _ | apply Pick.tail); (rw [onec_size]; decide); rfl; intro w1 hM1; clear hM; (rw [onec_hold] at hM1); have hM := hM1; clear hM1) | (apply ld_one (hM := hM); rfl; rfl; rfl; (repeat first | exact .head _ _ | apply Pick.tail); rfl; (first | exact one3 | exact one22))); simp only [q0, q9, q1, q2, q3])
              refine (free hM ok2 ((n0 : Int) - (tl : Int)) hall.out).mono ?_
              clear hM
              rintro e w3 ⟨rfl, hM⟩
              go_wp2_with ((with_reducible refine wpl ?_); (first | (apply mp_len (hM := hM) (hE := hE) (ht := und53); rfl; rfl; rfl) | (apply ld_row (hM := hM) (ht := onec_row _ _ _); rfl; rfl; rfl; (repeat first | exact .head _ _ | apply Pick.tail)) | (apply ld_one (hM := hM) (hv := onec_64) (ht := one3); rfl; rfl; rfl; (repeat first | exact .head _ _ | apply Pick.tail)) | (apply st_cell (hM := hM) (i := 64) (ht := one3); rfl; rfl; rfl; (first | (focus (go_simp; done)) | (focus (go_simp; rfl))); (repeat first | exact .head _ _ | apply Pick.tail); (rw [onec_size]; decide); rfl; intro w1 hM1; clear hM; (rw [onec_hold] at hM1); have hM := hM1; clear hM1) | (apply ld_one (hM := hM); rfl; rfl; rfl; (repeat first | exact .head _ _ | apply Pick.tail); rfl; (first | exact one3 | exact one22))); simp only [q0, q9, q1, q2, q3])
              refine (len hM (n0 : Nat) (by rw [hn.out])).mono ?_
              clear hM
              rintro e w3 ⟨rfl, hM⟩
              go_wp2_with ((with_reducible refine wpl ?_); (first | (apply ld_row (hM := hM) (ht := onec_row _ _ _); rfl; rfl; rfl; (repeat first | exact .head _ _ | apply Pick.tail)) | (apply ld_one (hM := hM) (hv := onec_64) (ht := one3); rfl; rfl; rfl; (repeat first | exact .head _ _ | apply Pick.tail)) | (apply st_cell (hM := hM) (i := 64) (ht := one3); rfl; rfl; rfl; (first | (focus (go_simp; done)) | (focus (go_simp; rfl))); (repeat first | exact .head _ _ | apply Pick.tail); (rw [onec_size]; decide); rfl; intro w1 hM1; clear hM; (rw [onec_hold] at hM1); have hM := hM1; clear hM1) | (apply ld_one (hM := hM); rfl; rfl; rfl; (repeat first | exact .head _ _ | apply Pick.tail); rfl; (first | exact one3 | exact one22))); simp only [q0, q9, q1, q2, q3])
              go_roundg (gk - 1)
              case measure => have := hgk.out; omega
              case rel => exact ⟨j + 1, ss, T, es, clk, F, R8, hid_ (by have := hgk.out; omega), by go_num, ok2, (inv.le' (Nat.le_succ j)), hE, hT8, hid_ (by have := hF8.out; omega), hFi, hM.tail.tail⟩
           by_cases k4 : ok_ = 4
           · as_aux_lemma =>
              have s0 : (ok_ == 0) = false := beq_eq_false_iff_ne.2 k0
              have s1 : (ok_ == 1) = false := beq_eq_false_iff_ne.2 k1
              have s2 : (ok_ == 2) = false := beq_eq_false_iff_ne.2 k2
              have s3 : (ok_ == 3) = false := beq_eq_false_iff_ne.2 k3
              have s4 : (ok_ == 4) = true := beq_iff_eq.2 k4
              clear k0
              clear k1
              clear k2
              clear k3
              clear k4
              go_wp2_with ((with_reducible refine wpl ?_); (first | (apply ld_row (hM := hM) (ht := onec_row _ _ _); rfl; rfl; rfl; (repeat first | exact .head _ _ | apply Pick.tail)) | (apply ld_one (hM := hM) (hv := onec_64) (ht := one3); rfl; rfl; rfl; (repeat first | exact .head _ _ | apply Pick.tail)) | (apply st_cell (hM := hM) (i := 64) (ht := one3); rfl; rfl; rfl; (first | (focus (go_simp; done)) | (focus (go_simp; rfl))); (repeat first | exact .head _ _ | apply Pick.tail); (rw [onec_size]; decide); rfl; intro w1 hM1; clear hM; (rw [onec_hold] at hM1); have hM := hM1; clear hM1) | (apply ld_one (hM := hM); rfl; rfl; rfl; (repeat first | exact .head _ _ | apply Pick.tail); rfl; (first | exact one3 | exact one22))); simp only [q0, q9, q1, q2, q3])
              refine (read_no hM id hnh ok2.n_le _ _).mono ?_
              clear hM
              rintro e w3 ⟨rfl, hM⟩
              go_upto_region 58 with (first | ((with_reducible refine wpl ?_); apply ld_row (hM := hM) (ht := onec_row _ _ _); rfl; rfl; rfl; (repeat first | exact .head _ _ | apply Pick.tail); simp only [q0, q9, q1, q2, q3]) | ((with_reducible refine wpl ?_); apply ld_one (hM := hM) (hv := onec_64) (ht := one3); rfl; rfl; rfl; (repeat first | exact .head _ _ | apply Pick.tail); simp only [q0, q9, q1, q2, q3]) | ((with_reducible refine wpl ?_); apply st_cell (hM := hM) (i := 64) (ht := one3); rfl; rfl; rfl; (first | (focus (go_simp; done)) | (focus (go_simp; rfl))); (repeat first | exact .head _ _ | apply Pick.tail); (rw [onec_size]; decide); rfl; intro w1 hM1; clear hM; (rw [onec_hold] at hM1); have hM := hM1; clear hM1; simp only [q0, q9, q1, q2, q3]) | ((with_reducible refine wpl ?_); apply ld_one (hM := hM); rfl; rfl; rfl; (repeat first | exact .head _ _ | apply Pick.tail); rfl; (first | exact one3 | exact one22); simp only [q0, q9, q1, q2, q3]))
              go_cut [24] from 271 to 291 (fun xg wx => ∃ b : Bool, xg = .bool b ∧ Hid (b = true → 0 ≤ oa_ ∧ oa_ ≤ 64 ∧ 0 ≤ on_ ∧ on_ ≤ 64 - oa_) ∧ Mem ⟨w, [(gm, .map es clk)]⟩ wx (arena p ss) (⟨gx, onec (fun _ => 0) 0 0, 58, (0, 0)⟩ :: ⟨gO, #[.int .i64 ok_, .int .i64 op_, .int .i64 oa_, .int .i64 on_, .int .i64 or_, .slice tb td.length tc], 55, (0, 0)⟩ :: R8))
              case first =>
               by_cases g0 : 0 ≤ oa_
               · have f0 : decide (oa_ ≥ 0) = true := decide_eq_true g0
                 by_cases g1 : oa_ ≤ 64
                 · have f1 : decide (oa_ ≤ 64) = true := decide_eq_true g1
                   have hwr : IntKind.i64.wrap (64 - oa_) = 64 - oa_ := IntWalk.i64_in _ (by omega)
                   by_cases g2 : 0 ≤ on_
                   · have f2 : decide (on_ ≥ 0) = true := decide_eq_true g2
                     by_cases g3 : on_ ≤ 64 - oa_
                     · have f3 : decide (on_ ≤ 64 - oa_) = true := decide_eq_true g3
                       go_wp2_with ((with_reducible refine wpl ?_); (first | (apply ld_row (hM := hM) (ht := onec_row _ _ _); rfl; rfl; rfl; (repeat first | exact .head _ _ | apply Pick.tail)) | (apply ld_one (hM := hM) (hv := onec_64) (ht := one3); rfl; rfl; rfl; (repeat first | exact .head _ _ | apply Pick.tail)) | (apply st_cell (hM := hM) (i := 64) (ht := one3); rfl; rfl; rfl; (first | (focus (go_simp; done)) | (focus (go_simp; rfl))); (repeat first | exact .head _ _ | apply Pick.tail); (rw [onec_size]; decide); rfl; intro w1 hM1; clear hM; (rw [onec_hold] at hM1); have hM := hM1; clear hM1) | (apply ld_one (hM := hM); rfl; rfl; rfl; (repeat first | exact .head _ _ | apply Pick.tail); rfl; (first | exact one3 | exact one22))); simp only [q0, q9, q1, q2, q3])
                       go_meet
                       case rel => exact ⟨true, rfl, hid_ (fun _ => ⟨g0, g1, g2, g3⟩), hM⟩
                     · have f3 : decide (on_ ≤ 64 - oa_) = false := decide_eq_false g3
                       go_wp2_with ((with_reducible refine wpl ?_); (first | (apply ld_row (hM := hM) (ht := onec_row _ _ _); rfl; rfl; rfl; (repeat first | exact .head _ _ | apply Pick.tail)) | (apply ld_one (hM := hM) (hv := onec_64) (ht := one3); rfl; rfl; rfl; (repeat first | exact .head _ _ | apply Pick.tail)) | (apply st_cell (hM := hM) (i := 64) (ht := one3); rfl; rfl; rfl; (first | (focus (go_simp; done)) | (focus (go_simp; rfl))); (repeat first | exact .head _ _ | apply Pick.tail); (rw [onec_size]; decide); rfl; intro w1 hM1; clear hM; (rw [onec_hold] at hM1); have hM := hM1; clear hM1) | (apply ld_one (hM := hM); rfl; rfl; rfl; (repeat first | exact .head _ _ | apply Pick.tail); rfl; (first | exact one3 | exact one22))); simp only [q0, q9, q1, q2, q3])
                       go_meet
                       case rel => exact ⟨false, rfl, hid_ (fun h => absurd h (by decide)), hM⟩
                   · have f2 : decide (on_ ≥ 0) = false := decide_eq_false g2
                     go_wp2_with ((with_reducible refine wpl ?_); (first | (apply ld_row (hM := hM) (ht := onec_row _ _ _); rfl; rfl; rfl; (repeat first | exact .head _ _ | apply Pick.tail)) | (apply ld_one (hM := hM) (hv := onec_64) (ht := one3); rfl; rfl; rfl; (repeat first | exact .head _ _ | apply Pick.tail)) | (apply st_cell (hM := hM) (i := 64) (ht := one3); rfl; rfl; rfl; (first | (focus (go_simp; done)) | (focus (go_simp; rfl))); (repeat first | exact .head _ _ | apply Pick.tail); (rw [onec_size]; decide); rfl; intro w1 hM1; clear hM; (rw [onec_hold] at hM1); have hM := hM1; clear hM1) | (apply ld_one (hM := hM); rfl; rfl; rfl; (repeat first | exact .head _ _ | apply Pick.tail); rfl; (first | exact one3 | exact one22))); simp only [q0, q9, q1, q2, q3])
                     go_meet
                     case rel => exact ⟨false, rfl, hid_ (fun h => absurd h (by decide)), hM⟩
                 · have f1 : decide (oa_ ≤ 64) = false := decide_eq_false g1
                   go_wp2_with ((with_reducible refine wpl ?_); (first | (apply ld_row (hM := hM) (ht := onec_row _ _ _); rfl; rfl; rfl; (repeat first | exact .head _ _ | apply Pick.tail)) | (apply ld_one (hM := hM) (hv := onec_64) (ht := one3); rfl; rfl; rfl; (repeat first | exact .head _ _ | apply Pick.tail)) | (apply st_cell (hM := hM) (i := 64) (ht := one3); rfl; rfl; rfl; (first | (focus (go_simp; done)) | (focus (go_simp; rfl))); (repeat first | exact .head _ _ | apply Pick.tail); (rw [onec_size]; decide); rfl; intro w1 hM1; clear hM; (rw [onec_hold] at hM1); have hM := hM1; clear hM1) | (apply ld_one (hM := hM); rfl; rfl; rfl; (repeat first | exact .head _ _ | apply Pick.tail); rfl; (first | exact one3 | exact one22))); simp only [q0, q9, q1, q2, q3])
                   go_meet
                   case rel => exact ⟨false, rfl, hid_ (fun h => absurd h (by decide)), hM⟩
               · have f0 : decide (oa_ ≥ 0) = false := decide_eq_false g0
                 go_wp2_with ((with_reducible refine wpl ?_); (first | (apply ld_row (hM := hM) (ht := onec_row _ _ _); rfl; rfl; rfl; (repeat first | exact .head _ _ | apply Pick.tail)) | (apply ld_one (hM := hM) (hv := onec_64) (ht := one3); rfl; rfl; rfl; (repeat first | exact .head _ _ | apply Pick.tail)) | (apply st_cell (hM := hM) (i := 64) (ht := one3); rfl; rfl; rfl; (first | (focus (go_simp; done)) | (focus (go_simp; rfl))); (repeat first | exact .head _ _ | apply Pick.tail); (rw [onec_size]; decide); rfl; intro w1 hM1; clear hM; (rw [onec_hold] at hM1); have hM := hM1; clear hM1) | (apply ld_one (hM := hM); rfl; rfl; rfl; (repeat first | exact .head _ _ | apply Pick.tail); rfl; (first | exact one3 | exact one22))); simp only [q0, q9, q1, q2, q3])
                 go_meet
                 case rel => exact ⟨false, rfl, hid_ (fun h => absurd h (by decide)), hM⟩
              case rest =>
               obtain ⟨bg, rfl, hbg, hM1⟩ := hcut
               clear hM
               have hM := hM1
               clear hM1
               go_upto_region 61 with (first | ((with_reducible refine wpl ?_); apply ld_row (hM := hM) (ht := onec_row _ _ _); rfl; rfl; rfl; (repeat first | exact .head _ _ | apply Pick.tail); simp only [q0, q9, q1, q2, q3]) | ((with_reducible refine wpl ?_); apply ld_one (hM := hM) (hv := onec_64) (ht := one3); rfl; rfl; rfl; (repeat first | exact .head _ _ | apply Pick.tail); simp only [q0, q9, q1, q2, q3]) | ((with_reducible refine wpl ?_); apply st_cell (hM := hM) (i := 64) (ht := one3); rfl; rfl; rfl; (first | (focus (go_simp; done)) | (focus (go_simp; rfl))); (repeat first | exact .head _ _ | apply Pick.tail); (rw [onec_size]; decide); rfl; intro w1 hM1; clear hM; (rw [onec_hold] at hM1); have hM := hM1; clear hM1; simp only [q0, q9, q1, q2, q3]) | ((with_reducible refine wpl ?_); apply ld_one (hM := hM); rfl; rfl; rfl; (repeat first | exact .head _ _ | apply Pick.tail); rfl; (first | exact one3 | exact one22); simp only [q0, q9, q1, q2, q3]))
               refine reg_begin (fun w' => Mem ⟨w, [(gm, .map es clk)]⟩ w' [] [⟨gx, onec (fun _ => 0) 0 0, 58, (0, 0)⟩, ⟨gO, #[.int .i64 ok_, .int .i64 op_, .int .i64 oa_, .int .i64 on_, .int .i64 or_, .slice tb td.length tc], 55, (0, 0)⟩]) (by kernel_rfl) hM (fun wd hMd => ?_)
               clear hM
               have hM := hMd
               clear hMd
               have hS := (hM.swap.none.swap.sub (.cons (.head _ _) (.cons (.head _ _) (.nil _))))
               refine rf 0 (.bool false) hS ?_
               simp only [q0, q9, q1, q2, q3]
               refine rf 1 (.bool false) hS ?_
               simp only [q0, q9, q1, q2, q3]
               refine rk 2 hS ?_
               simp only [q0, q9, q1, q2, q3]
               refine rf 3 (.bool false) hS ?_
               simp only [q0, q9, q1, q2, q3]
               refine rf 4 (.bool false) hS ?_
               simp only [q0, q9, q1, q2, q3]
               refine rk 5 hS ?_
               simp only [q0, q9, q1, q2, q3]
               refine rk 6 hS ?_
               simp only [q0, q9, q1, q2, q3]
               refine rk 7 hS ?_
               simp only [q0, q9, q1, q2, q3]
               refine rk 8 hS ?_
               simp only [q0, q9, q1, q2, q3]
               refine rk 9 hS ?_
               simp only [q0, q9, q1, q2, q3]
               refine rk 10 hS ?_
               simp only [q0, q9, q1, q2, q3]
               refine rk 11 hS ?_
               simp only [q0, q9, q1, q2, q3]
               refine rk 12 hS ?_
               simp only [q0, q9, q1, q2, q3]
               refine rk 13 hS ?_
               simp only [q0, q9, q1, q2, q3]
               refine rk 14 hS ?_
               simp only [q0, q9, q1, q2, q3]
               refine rk 15 hS ?_
               simp only [q0, q9, q1, q2, q3]
               refine rk 16 hS ?_
               simp only [q0, q9, q1, q2, q3]
               refine rk 17 hS ?_
               simp only [q0, q9, q1, q2, q3]
               refine rf 18 (.bool false) hS ?_
               simp only [q0, q9, q1, q2, q3]
               refine rf 19 (.bool false) hS ?_
               simp only [q0, q9, q1, q2, q3]
               refine rf 20 (.int .i64 4) hS ?_
               simp only [q0, q9, q1, q2, q3]
               refine rf 21 (.bool true) hS ?_
               simp only [q0, q9, q1, q2, q3]
               refine rf 22 (.bool true) hS ?_
               simp only [q0, q9, q1, q2, q3]
               refine rf 23 (.slice none 0 0) hS ?_
               simp only [q0, q9, q1, q2, q3]
               refine rf 24 (.int .i64 0) hS ?_
               simp only [q0, q9, q1, q2, q3]
               refine rf 25 (.bool false) hS ?_
               simp only [q0, q9, q1, q2, q3]
               refine rf 26 (.bool false) hS ?_
               simp only [q0, q9, q1, q2, q3]
               refine rf 27 (.bool false) hS ?_
               simp only [q0, q9, q1, q2, q3]
               refine reg_done (by kernel_rfl) ?_
               clear hS
               obtain ⟨tl, htl⟩ : ∃ tl : Nat, (ents ss T).length = tl := ⟨_, rfl⟩
               have hall : Hid ((ss.m : Int) = (n0 : Int) - (tl : Int)) := hid_ (by have h1 := inv.all; have h2 := hn.out; rw [ents_len] at htl; omega)
               have htlb : (tl : Int) ≤ (n0 : Int) := by have h1 := inv.all; have h2 := hn.out; rw [ents_len] at htl; omega
               have hwr0 : IntKind.i64.wrap ((n0 : Int) - (tl : Int)) = (n0 : Int) - (tl : Int) := IntWalk.i64_in _ (by omega)
               go_wp2_with ((with_reducible refine wpl ?_); (first | (apply ld_row (hM := hM) (ht := onec_row _ _ _); rfl; rfl; rfl; (repeat first | exact .head _ _ | apply Pick.tail)) | (apply ld_one (hM := hM) (hv := onec_64) (ht := one3); rfl; rfl; rfl; (repeat first | exact .head _ _ | apply Pick.tail)) | (apply st_cell (hM := hM) (i := 64) (ht := one3); rfl; rfl; rfl; (first | (focus (go_simp; done)) | (focus (go_simp; rfl))); (repeat first | exact .head _ _ | apply Pick.tail); (rw [onec_size]; decide); rfl; intro w1 hM1; clear hM; (rw [onec_hold] at hM1); have hM := hM1; clear hM1) | (apply ld_one (hM := hM); rfl; rfl; rfl; (repeat first | exact .head _ _ | apply Pick.tail); rfl; (first | exact one3 | exact one22))); simp only [q0, q9, q1, q2, q3])
               refine (free hM ok2 ((n0 : Int) - (tl : Int)) hall.out).mono ?_
               clear hM
               rintro e w3 ⟨rfl, hM⟩
               go_wp2_with ((with_reducible refine wpl ?_); (first | (apply mp_len (hM := hM) (hE := hE) (ht := und53); rfl; rfl; rfl) | (apply ld_row (hM := hM) (ht := onec_row _ _ _); rfl; rfl; rfl; (repeat first | exact .head _ _ | apply Pick.tail)) | (apply ld_one (hM := hM) (hv := onec_64) (ht := one3); rfl; rfl; rfl; (repeat first | exact .head _ _ | apply Pick.tail)) | (apply st_cell (hM := hM) (i := 64) (ht := one3); rfl; rfl; rfl; (first | (focus (go_simp; done)) | (focus (go_simp; rfl))); (repeat first | exact .head _ _ | apply Pick.tail); (rw [onec_size]; decide); rfl; intro w1 hM1; clear hM; (rw [onec_hold] at hM1); have hM := hM1; clear hM1) | (apply ld_one (hM := hM); rfl; rfl; rfl; (repeat first | exact .head _ _ | apply Pick.tail); rfl; (first | exact one3 | exact one22))); simp only [q0, q9, q1, q2, q3])
               refine (len hM (n0 : Nat) (by rw [hn.out])).mono ?_
               clear hM
               rintro e w3 ⟨rfl, hM⟩
               go_wp2_with ((with_reducible refine wpl ?_); (first | (apply ld_row (hM := hM) (ht := onec_row _ _ _); rfl; rfl; rfl; (repeat first | exact .head _ _ | apply Pick.tail)) | (apply ld_one (hM := hM) (hv := onec_64) (ht := one3); rfl; rfl; rfl; (repeat first | exact .head _ _ | apply Pick.tail)) | (apply st_cell (hM := hM) (i := 64) (ht := one3); rfl; rfl; rfl; (first | (focus (go_simp; done)) | (focus (go_simp; rfl))); (repeat first | exact .head _ _ | apply Pick.tail); (rw [onec_size]; decide); rfl; intro w1 hM1; clear hM; (rw [onec_hold] at hM1); have hM := hM1; clear hM1) | (apply ld_one (hM := hM); rfl; rfl; rfl; (repeat first | exact .head _ _ | apply Pick.tail); rfl; (first | exact one3 | exact one22))); simp only [q0, q9, q1, q2, q3])
               go_roundg (gk - 1)
               case measure => have := hgk.out; omega
               case rel => exact ⟨j + 1, ss, T, es, clk, F, R8, hid_ (by have := hgk.out; omega), by go_num, ok2, (inv.le' (Nat.le_succ j)), hE, hT8, hid_ (by have := hF8.out; omega), hFi, hM.tail.tail⟩
           as_aux_lemma =>
            have s0 : (ok_ == 0) = false := beq_eq_false_iff_ne.2 k0
            have s1 : (ok_ == 1) = false := beq_eq_false_iff_ne.2 k1
            have s2 : (ok_ == 2) = false := beq_eq_false_iff_ne.2 k2
            have s3 : (ok_ == 3) = false := beq_eq_false_iff_ne.2 k3
            have s4 : (ok_ == 4) = false := beq_eq_false_iff_ne.2 k4
            clear k0
            clear k1
            clear k2
            clear k3
            clear k4
            obtain ⟨tl, htl⟩ : ∃ tl : Nat, (ents ss T).length = tl := ⟨_, rfl⟩
            have hall : Hid ((ss.m : Int) = (n0 : Int) - (tl : Int)) := hid_ (by have h1 := inv.all; have h2 := hn.out; rw [ents_len] at htl; omega)
            have htlb : (tl : Int) ≤ (n0 : Int) := by have h1 := inv.all; have h2 := hn.out; rw [ents_len] at htl; omega
            have hwr0 : IntKind.i64.wrap ((n0 : Int) - (tl : Int)) = (n0 : Int) - (tl : Int) := IntWalk.i64_in _ (by omega)
            go_wp2_with ((with_reducible refine wpl ?_); (first | (apply ld_row (hM := hM) (ht := onec_row _ _ _); rfl; rfl; rfl; (repeat first | exact .head _ _ | apply Pick.tail)) | (apply ld_one (hM := hM) (hv := onec_64) (ht := one3); rfl; rfl; rfl; (repeat first | exact .head _ _ | apply Pick.tail)) | (apply st_cell (hM := hM) (i := 64) (ht := one3); rfl; rfl; rfl; (first | (focus (go_simp; done)) | (focus (go_simp; rfl))); (repeat first | exact .head _ _ | apply Pick.tail); (rw [onec_size]; decide); rfl; intro w1 hM1; clear hM; (rw [onec_hold] at hM1); have hM := hM1; clear hM1) | (apply ld_one (hM := hM); rfl; rfl; rfl; (repeat first | exact .head _ _ | apply Pick.tail); rfl; (first | exact one3 | exact one22))); simp only [q0, q9, q1, q2, q3])
            refine (free hM ok2 ((n0 : Int) - (tl : Int)) hall.out).mono ?_
            clear hM
            rintro e w3 ⟨rfl, hM⟩
            go_wp2_with ((with_reducible refine wpl ?_); (first | (apply mp_len (hM := hM) (hE := hE) (ht := und53); rfl; rfl; rfl) | (apply ld_row (hM := hM) (ht := onec_row _ _ _); rfl; rfl; rfl; (repeat first | exact .head _ _ | apply Pick.tail)) | (apply ld_one (hM := hM) (hv := onec_64) (ht := one3); rfl; rfl; rfl; (repeat first | exact .head _ _ | apply Pick.tail)) | (apply st_cell (hM := hM) (i := 64) (ht := one3); rfl; rfl; rfl; (first | (focus (go_simp; done)) | (focus (go_simp; rfl))); (repeat first | exact .head _ _ | apply Pick.tail); (rw [onec_size]; decide); rfl; intro w1 hM1; clear hM; (rw [onec_hold] at hM1); have hM := hM1; clear hM1) | (apply ld_one (hM := hM); rfl; rfl; rfl; (repeat first | exact .head _ _ | apply Pick.tail); rfl; (first | exact one3 | exact one22))); simp only [q0, q9, q1, q2, q3])
            refine (len hM (n0 : Nat) (by rw [hn.out])).mono ?_
            clear hM
            rintro e w3 ⟨rfl, hM⟩
            go_wp2_with ((with_reducible refine wpl ?_); (first | (apply ld_row (hM := hM) (ht := onec_row _ _ _); rfl; rfl; rfl; (repeat first | exact .head _ _ | apply Pick.tail)) | (apply ld_one (hM := hM) (hv := onec_64) (ht := one3); rfl; rfl; rfl; (repeat first | exact .head _ _ | apply Pick.tail)) | (apply st_cell (hM := hM) (i := 64) (ht := one3); rfl; rfl; rfl; (first | (focus (go_simp; done)) | (focus (go_simp; rfl))); (repeat first | exact .head _ _ | apply Pick.tail); (rw [onec_size]; decide); rfl; intro w1 hM1; clear hM; (rw [onec_hold] at hM1); have hM := hM1; clear hM1) | (apply ld_one (hM := hM); rfl; rfl; rfl; (repeat first | exact .head _ _ | apply Pick.tail); rfl; (first | exact one3 | exact one22))); simp only [q0, q9, q1, q2, q3])
            go_roundg (gk - 1)
            case measure => have := hgk.out; omega
            case rel => exact ⟨j + 1, ss, T, es, clk, F, R8, hid_ (by have := hgk.out; omega), by go_num, ok2, (inv.le' (Nat.le_succ j)), hE, hT8, hid_ (by have := hF8.out; omega), hFi, hM.tail.tail⟩
         · obtain ⟨k, hkT, rfl⟩ := id_in hkn
           clear hkn
           have hkn := ((inv.mem k).1 hkT).1
           have hkp := ((inv.mem k).1 hkT).2
           go_upto_region 21 with (first | ((with_reducible refine wpl ?_); apply mp_look (hM := hM) (hE := hE) (k := (k : Nat)) (hk := ents_mem hkT) (ht := und53) (hkt := und3); rfl; rfl; rfl; rfl; simp only [q0, q9, q1, q2, q3]) | ((with_reducible refine wpl ?_); apply st_row (hM := hM) (h1 := onec_one _ _ _) (ht := onec_row _ _ _); rfl; rfl; rfl; (first | (focus (go_simp; done)) | (focus (go_simp; rfl))); (repeat first | exact .head _ _ | apply Pick.tail); exact (onec_size _ _ _).trans (onec_size _ _ _).symm; clear hM; intro w1 hM; simp only [q0, q9, q1, q2, q3]) | ((with_reducible refine wpl ?_); apply ld_row (hM := hM) (ht := onec_row _ _ _); rfl; rfl; rfl; (repeat first | exact .head _ _ | apply Pick.tail); simp only [q0, q9, q1, q2, q3]) | ((with_reducible refine wpl ?_); apply ld_one (hM := hM) (hv := onec_64) (ht := one3); rfl; rfl; rfl; (repeat first | exact .head _ _ | apply Pick.tail); simp only [q0, q9, q1, q2, q3]) | ((with_reducible refine wpl ?_); apply st_cell (hM := hM) (i := 64) (ht := one3); rfl; rfl; rfl; (first | (focus (go_simp; done)) | (focus (go_simp; rfl))); (repeat first | exact .head _ _ | apply Pick.tail); (rw [onec_size]; decide); rfl; intro w1 hM1; clear hM; (rw [onec_hold] at hM1); have hM := hM1; clear hM1; simp only [q0, q9, q1, q2, q3]) | ((with_reducible refine wpl ?_); apply al_box (hM := hM); rfl; rfl; (first | (focus (go_simp; done)) | (focus (go_simp; rfl))); clear hM; intro gb w1 hM; dsimp only [Value.cells] at hM; simp only [q0, q9, q1, q2, q3]) | ((with_reducible refine wpl ?_); apply al_zero (hM := hM); rfl; rfl; (first | exact zero55 | exact zero58); clear hM; intro gz w1 hM; dsimp only [Value.cells] at hM; simp only [q0, q9, q1, q2, q3]) | ((with_reducible refine wpl ?_); apply ld_row (hM := hM); rfl; rfl; rfl; (repeat first | exact .head _ _ | apply Pick.tail); (first | exact row55); simp only [q0, q9, q1, q2, q3]) | ((with_reducible refine wpl ?_); apply st_row (hM := hM); rfl; rfl; rfl; (first | (focus (go_simp; done)) | (focus (go_simp; rfl))); (repeat first | exact .head _ _ | apply Pick.tail); rfl; rfl; (first | exact row55); intro w1 hM1; clear hM; (try simp only [q1, q2, q3] at hM1); (try rw [tab_setInt] at hM1);  have hM := hM1; clear hM1; simp only [q0, q9, q1, q2, q3]) | ((with_reducible refine wpl ?_); apply ld_one (hM := hM); rfl; rfl; rfl; (repeat first | exact .head _ _ | apply Pick.tail); rfl; (first | exact one3 | exact one39 | exact one22); simp only [q0, q9, q1, q2, q3]) | ((with_reducible refine wpl ?_); apply st_cell (hM := hM); rfl; rfl; rfl; (first | (focus (go_simp; done)) | (focus (go_simp; rfl))); (repeat first | exact .head _ _ | apply Pick.tail); simp; rfl; (first | exact one3 | exact one39 | exact one22); intro w1 hM1; clear hM; (try simp only [q1, q2, q3] at hM1); (try rw [tab_setInt] at hM1);  have hM := hM1; clear hM1; simp only [q0, q9, q1, q2, q3]))
           obtain ⟨gx, rfl⟩ : ∃ g : Nat, g = gz := ⟨_, rfl⟩
           by_cases k0 : ok_ = 0
           · as_aux_lemma =>
              have s0 : (ok_ == 0) = true := beq_iff_eq.2 k0
              clear k0
              rcases Nat.eq_zero_or_pos ss.m with hm0 | hmp
              · as_aux_lemma =>
                 go_wp2_with ((with_reducible refine wpl ?_); (first | (apply ld_row (hM := hM) (ht := onec_row _ _ _); rfl; rfl; rfl; (repeat first | exact .head _ _ | apply Pick.tail)) | (apply ld_one (hM := hM) (hv := onec_64) (ht := one3); rfl; rfl; rfl; (repeat first | exact .head _ _ | apply Pick.tail)) | (apply st_cell (hM := hM) (i := 64) (ht := one3); rfl; rfl; rfl; (first | (focus (go_simp; done)) | (focus (go_simp; rfl))); (repeat first | exact .head _ _ | apply Pick.tail); (rw [onec_size]; decide); rfl; intro w1 hM1; clear hM; (rw [onec_hold] at hM1); have hM := hM1; clear hM1) | (apply ld_one (hM := hM); rfl; rfl; rfl; (repeat first | exact .head _ _ | apply Pick.tail); rfl; (first | exact one3 | exact one22))); simp only [q0, q9, q1, q2, q3])
                 refine (take_none hM hm0).mono ?_
                 clear hM
                 rintro e w3 ⟨rfl, hM⟩
                 have hl : Hid ((ents ss T).length = n0) := hid_ (by rw [ents_len]; have h1 := inv.all; have h2 := hn.out; omega)
                 have hl2 : ¬ (ents ss T).length < n0 := by have := hl.out; omega
                 clear hm0
                 go_wp2_with ((with_reducible refine wpl ?_); (first | (apply mp_len (hM := hM) (hE := hE) (ht := und53); rfl; rfl; rfl) | (apply ld_row (hM := hM) (ht := onec_row _ _ _); rfl; rfl; rfl; (repeat first | exact .head _ _ | apply Pick.tail)) | (apply ld_one (hM := hM) (hv := onec_64) (ht := one3); rfl; rfl; rfl; (repeat first | exact .head _ _ | apply Pick.tail)) | (apply st_cell (hM := hM) (i := 64) (ht := one3); rfl; rfl; rfl; (first | (focus (go_simp; done)) | (focus (go_simp; rfl))); (repeat first | exact .head _ _ | apply Pick.tail); (rw [onec_size]; decide); rfl; intro w1 hM1; clear hM; (rw [onec_hold] at hM1); have hM := hM1; clear hM1) | (apply ld_one (hM := hM); rfl; rfl; rfl; (repeat first | exact .head _ _ | apply Pick.tail); rfl; (first | exact one3 | exact one22))); simp only [q0, q9, q1, q2, q3])
                 go_roundg (gk - 1)
                 case measure => have := hgk.out; omega
                 case rel => exact ⟨j + 1, ss, T, es, clk, F, R8, hid_ (by have := hgk.out; omega), by go_num, ok2, (inv.le' (Nat.le_succ j)), hE, hT8, hid_ (by have := hF8.out; omega), hFi, hM.tail.tail⟩
              · as_aux_lemma =>
                 go_wp2_with ((with_reducible refine wpl ?_); (first | (apply ld_row (hM := hM) (ht := onec_row _ _ _); rfl; rfl; rfl; (repeat first | exact .head _ _ | apply Pick.tail)) | (apply ld_one (hM := hM) (hv := onec_64) (ht := one3); rfl; rfl; rfl; (repeat first | exact .head _ _ | apply Pick.tail)) | (apply st_cell (hM := hM) (i := 64) (ht := one3); rfl; rfl; rfl; (first | (focus (go_simp; done)) | (focus (go_simp; rfl))); (repeat first | exact .head _ _ | apply Pick.tail); (rw [onec_size]; decide); rfl; intro w1 hM1; clear hM; (rw [onec_hold] at hM1); have hM := hM1; clear hM1) | (apply ld_one (hM := hM); rfl; rfl; rfl; (repeat first | exact .head _ _ | apply Pick.tail); rfl; (first | exact one3 | exact one22))); simp only [q0, q9, q1, q2, q3])
                 refine (take hM ok2 hmp).mono ?_
                 clear hM
                 rintro e w3 ⟨k0, s2, rfl, hM, ok3, hk0, h0, hD2, hH2, hm2⟩
                 have hl2 : (ents ss T).length < n0 := by rw [ents_len]; have h1 := inv.all; have h2 := hn.out; omega
                 obtain ⟨hk0T, inv2, hents⟩ := inv.take hk0 h0 hD2 hH2 hm2
                 have hne0 : ∀ q ∈ T, (q : Int) ≠ (k0 : Int) := fun q hq e => hk0T (by rw [← Int.ofNat_inj.1 e]; exact hq)
                 replace hents := hid_ hents
                 clear hD2 hH2 hm2 h0 hmp
                 have hk0a : decide ((k0 : Int) < 0) = false := decide_eq_false (by omega)
                 have hk0b : ¬ n0 ≤ k0 := by have := hn.out; omega
                 go_wp2_with ((with_reducible refine wpl ?_); (first | (apply mp_len (hM := hM) (hE := hE) (ht := und53); rfl; rfl; rfl) | (apply mp_look_no (hM := hM) (hE := hE) (hk := ents_ne hne0) (ht := und53) (hkt := und3) (hz := zero58); rfl; rfl; rfl; rfl) | (apply any_val (v := .agg (onec (fun _ => 0) 0 1)); rfl; exact build58 _ rfl) | (apply mp_new (hM := hM) (v := .agg (onec (fun _ => 0) 0 1)) (hne := hne) (hE := hE) (k := (k0 : Nat)) (hk := ents_ne hne0) (ht := und53) (hkt := und3); rfl; rfl; rfl; rfl; rfl; clear hM; intro es2 clk2 w1 hE2 hM) | (apply al_one (hM := hM) (v := .int .i64 (k0 : Nat)) (ht := sl39); rfl; rfl; rfl; rfl; clear hM; intro gq w1 hM) | (apply tb_app_p (hM := hM) (hT := hT8) (es := [.int .i64 (k0 : Nat)]) (A := [⟨gz, onec (fun _ => 0) 0 0, 58, (0, 0)⟩, ⟨gx, onec ss.D (k * 64) (ss.H k), 58, (0, 0)⟩, ⟨gO, #[.int .i64 ok_, .int .i64 op_, .int .i64 oa_, .int .i64 on_, .int .i64 or_, .slice tb td.length tc], 55, (0, 0)⟩]) (ht := sl39); rfl; rfl; rfl; exact List.Perm.refl _; rfl; rfl; rfl; rfl; decide; (have := hF8.out; omega); (have := hF8.out; omega); intro g c n cells w1 hn1 hT81 hM1; clear hM; simp only [List.cons_append, List.nil_append] at hM1; have hM := hM1; clear hM1) | (apply st_row (hM := hM) (h1 := onec_one _ _ _) (ht := onec_row _ _ _); rfl; rfl; rfl; (first | (focus (go_simp; done)) | (focus (go_simp; rfl))); (repeat first | exact .head _ _ | apply Pick.tail); exact (onec_size _ _ _).trans (onec_size _ _ _).symm; clear hM; intro w1 hM) | (apply ld_row (hM := hM) (ht := onec_row _ _ _); rfl; rfl; rfl; (repeat first | exact .head _ _ | apply Pick.tail)) | (apply ld_one (hM := hM) (hv := onec_64) (ht := one3); rfl; rfl; rfl; (repeat first | exact .head _ _ | apply Pick.tail)) | (apply st_cell (hM := hM) (i := 64) (ht := one3); rfl; rfl; rfl; (first | (focus (go_simp; done)) | (focus (go_simp; rfl))); (repeat first | exact .head _ _ | apply Pick.tail); (rw [onec_size]; decide); rfl; intro w1 hM1; clear hM; (rw [onec_hold] at hM1); have hM := hM1; clear hM1) | (apply al_box (hM := hM); rfl; rfl; (first | (focus (go_simp; done)) | (focus (go_simp; rfl))); clear hM; intro gb w1 hM; dsimp only [Value.cells] at hM) | (apply al_zero (hM := hM); rfl; rfl; (first | exact zero55 | exact zero58); clear hM; intro gz w1 hM; dsimp only [Value.cells] at hM) | (apply ld_row (hM := hM); rfl; rfl; rfl; (repeat first | exact .head _ _ | apply Pick.tail); (first | exact row55)) | (apply st_row (hM := hM); rfl; rfl; rfl; (first | (focus (go_simp; done)) | (focus (go_simp; rfl))); (repeat first | exact .head _ _ | apply Pick.tail); rfl; rfl; (first | exact row55); intro w1 hM1; clear hM; (try simp only [q1, q2, q3] at hM1); (try rw [tab_setInt] at hM1);  have hM := hM1; clear hM1) | (apply ld_one (hM := hM); rfl; rfl; rfl; (repeat first | exact .head _ _ | apply Pick.tail); rfl; (first | exact one3 | exact one39 | exact one22)) | (apply st_cell (hM := hM); rfl; rfl; rfl; (first | (focus (go_simp; done)) | (focus (go_simp; rfl))); (repeat first | exact .head _ _ | apply Pick.tail); simp; rfl; (first | exact one3 | exact one39 | exact one22); intro w1 hM1; clear hM; (try simp only [q1, q2, q3] at hM1); (try rw [tab_setInt] at hM1);  have hM := hM1; clear hM1)); simp only [q0, q9, q1, q2, q3])
                 rw [hents.out] at hE2
                 go_roundg (gk - 1)
                 case measure => have := hgk.out; omega
                 case rel => exact ⟨j + 1, s2, (T ++ [k0]), es2, clk2, _, _, hid_ (by have := hgk.out; omega), by go_num, ok3, inv2, hE2, hT81, hid_ (by rw [List.length_append, List.length_singleton]; have := hF8.out; omega), hid_ (fun v hv => by rcases List.mem_append.1 hv with h | h; exact hFi.out v h; exact ⟨_, List.mem_singleton.1 h⟩), hM.tail.tail.tail⟩
           by_cases k1 : ok_ = 1
           · as_aux_lemma =>
              have s0 : (ok_ == 0) = false := beq_eq_false_iff_ne.2 k0
              have s1 : (ok_ == 1) = true := beq_iff_eq.2 k1
              clear k0
              clear k1
              by_cases hgood : 0 ≤ oa_ ∧ oa_ ≤ 64 ∧ (td.length : Int) ≤ 64 - oa_
              · as_aux_lemma =>
                 obtain ⟨g0, g1, g2⟩ := hgood
                 obtain ⟨q, rfl⟩ := Int.eq_ofNat_of_zero_le g0
                 have f0 : decide ((q : Int) ≥ 0) = true := decide_eq_true g0
                 have f1 : decide ((q : Int) ≤ 64) = true := decide_eq_true g1
                 have f2 : decide ((td.length : Int) ≤ 64 - (q : Int)) = true := decide_eq_true g2
                 have hwr : IntKind.i64.wrap (64 - (q : Int)) = 64 - (q : Int) := IntWalk.i64_in _ (by omega)
                 have hq : q ≤ 64 := by omega
                 have hl : td.length ≤ 64 - q := by omega
                 go_wp2_with ((with_reducible refine wpl ?_); (first | (apply ld_row (hM := hM) (ht := onec_row _ _ _); rfl; rfl; rfl; (repeat first | exact .head _ _ | apply Pick.tail)) | (apply ld_one (hM := hM) (hv := onec_64) (ht := one3); rfl; rfl; rfl; (repeat first | exact .head _ _ | apply Pick.tail)) | (apply st_cell (hM := hM) (i := 64) (ht := one3); rfl; rfl; rfl; (first | (focus (go_simp; done)) | (focus (go_simp; rfl))); (repeat first | exact .head _ _ | apply Pick.tail); (rw [onec_size]; decide); rfl; intro w1 hM1; clear hM; (rw [onec_hold] at hM1); have hM := hM1; clear hM1) | (apply ld_one (hM := hM); rfl; rfl; rfl; (repeat first | exact .head _ _ | apply Pick.tail); rfl; (first | exact one3 | exact one22))); simp only [q0, q9, q1, q2, q3])
                 refine (write' hM ok2 k hkn hkp q rfl _ td (fun w' h' => hbt.came h') hq hl).mono ?_
                 clear hM
                 rintro e w3 ⟨s2, rfl, hM, ok3, hD2, hH2, hm2⟩
                 obtain ⟨inv2, hoth⟩ := inv.write (k := k) (q := q) (bs := td) (by omega) hD2 hH2 hm2
                 go_upto_region 38 with (first | ((with_reducible refine wpl ?_); apply ld_row (hM := hM) (ht := onec_row _ _ _); rfl; rfl; rfl; (repeat first | exact .head _ _ | apply Pick.tail); simp only [q0, q9, q1, q2, q3]) | ((with_reducible refine wpl ?_); apply ld_one (hM := hM) (hv := onec_64) (ht := one3); rfl; rfl; rfl; (repeat first | exact .head _ _ | apply Pick.tail); simp only [q0, q9, q1, q2, q3]) | ((with_reducible refine wpl ?_); apply st_cell (hM := hM) (i := 64) (ht := one3); rfl; rfl; rfl; (first | (focus (go_simp; done)) | (focus (go_simp; rfl))); (repeat first | exact .head _ _ | apply Pick.tail); (rw [onec_size]; decide); rfl; intro w1 hM1; clear hM; (rw [onec_hold] at hM1); have hM := hM1; clear hM1; simp only [q0, q9, q1, q2, q3]) | ((with_reducible refine wpl ?_); apply ld_one (hM := hM); rfl; rfl; rfl; (repeat first | exact .head _ _ | apply Pick.tail); rfl; (first | exact one3 | exact one22); simp only [q0, q9, q1, q2, q3]))
                 refine reg_begin (fun w' => Mem ⟨w, [(gm, .map es clk)]⟩ w' [] [⟨gO, #[.int .i64 ok_, .int .i64 op_, .int .i64 (q : Nat), .int .i64 on_, .int .i64 or_, .slice tb td.length tc], 55, (0, 0)⟩]) (by kernel_rfl) hM (fun wd hMd => ?_)
                 clear hM
                 have hM := hMd
                 clear hMd
                 have hS := (hM.swap.none.swap.sub (.cons (.tail (.head _ _)) (.nil _)))
                 refine rf 0 (.pointer (some ⟨gx, 0, none⟩)) hS ?_
                 simp only [q0, q9, q1, q2, q3]
                 refine rf 1 (.pointer (some ⟨gO, 2, none⟩)) hS ?_
                 simp only [q0, q9, q1, q2, q3]
                 refine rg_one 2 (v := .int .i64 (q : Nat)) rfl (by kernel_rfl) (by kernel_rfl) (by kernel_rfl) (fun _ _ _ h => h) (by rfl) rfl rfl (fun w' h' => (h'.cell (.head _ _) 2).trans rfl) one3 hS ?_
                 simp only [q0, q9, q1, q2, q3]
                 refine rv 3 (.slice (some ⟨gx, 0 + skp 64 q 1, none⟩) (64 - q) (64 - q)) hS (fun w => run_arr_l w q rfl rfl rfl rfl hq) ?_
                 simp only [q0, q9, q1, q2, q3]
                 refine rf 4 (.pointer (some ⟨gO, 5, none⟩)) hS ?_
                 simp only [q0, q9, q1, q2, q3]
                 refine rg_one 5 (v := .slice tb td.length tc) rfl (by kernel_rfl) (by kernel_rfl) (by kernel_rfl) (fun _ _ _ h => h) (by rfl) rfl rfl (fun w' h' => (h'.cell (.head _ _) 5).trans rfl) one22 hS ?_
                 simp only [q0, q9, q1, q2, q3]
                 refine reg_step 6 (by kernel_rfl) rfl ?_
                 apply cp_own (hM := hM) (bs := td); rfl; rfl; exact und22; exact size5; rfl; exact .head _ _; exact hbt.came hM; omega; (rw [onec_size]; unfold skp; split <;> omega)
                 intro w6 hM1
                 rw [onec_lay hq hl] at hM1
                 clear hM
                 have hM := hM1
                 clear hM1
                 clear hS
                 have hS := (hM.swap.none.swap.sub (.cons (.tail (.head _ _)) (.nil _)))
                 refine ⟨hS, ?_⟩
                 simp only [q0, q9, q1, q2, q3]
                 refine reg_done (by kernel_rfl) ?_
                 clear hS
                 rw [show onec (put ss.D (k * 64 + q) td) (k * 64) (ss.H k) = onec s2.D (k * 64) (s2.H k) by rw [hD2, hH2]] at hM
                 clear hD2 hH2
                 go_wp2_with ((with_reducible refine wpl ?_); (first | (apply mp_old (hM := hM) (v := .agg (onec s2.D (k * 64) (s2.H k))) (hne := hne) (hE := hE) (k := (k : Nat)) (hk := ents_mem hkT) (ht := und53) (hkt := und3); rfl; rfl; rfl; rfl; rfl; clear hM; intro es2 clk2 w1 i2 hi2 hE2 hM) | (apply ld_row (hM := hM) (ht := onec_row _ _ _); rfl; rfl; rfl; (repeat first | exact .head _ _ | apply Pick.tail)) | (apply ld_one (hM := hM) (hv := onec_64) (ht := one3); rfl; rfl; rfl; (repeat first | exact .head _ _ | apply Pick.tail)) | (apply st_cell (hM := hM) (i := 64) (ht := one3); rfl; rfl; rfl; (first | (focus (go_simp; done)) | (focus (go_simp; rfl))); (repeat first | exact .head _ _ | apply Pick.tail); (rw [onec_size]; decide); rfl; intro w1 hM1; clear hM; (rw [onec_hold] at hM1); have hM := hM1; clear hM1) | (apply ld_one (hM := hM); rfl; rfl; rfl; (repeat first | exact .head _ _ | apply Pick.tail); rfl; (first | exact one3 | exact one22))); simp only [q0, q9, q1, q2, q3])
                 rw [ents_set (s' := s2) inv.nd hi2 hoth] at hE2
                 clear hE hi2
                 have hE := hE2
                 clear hE2
                 obtain ⟨tl, htl⟩ : ∃ tl : Nat, (ents s2 T).length = tl := ⟨_, rfl⟩
                 have hall : Hid ((s2.m : Int) = (n0 : Int) - (tl : Int)) := hid_ (by have h1 := inv2.all; have h2 := hn.out; rw [ents_len] at htl; omega)
                 have htlb : (tl : Int) ≤ (n0 : Int) := by have h1 := inv2.all; have h2 := hn.out; rw [ents_len] at htl; omega
                 have hwr0 : IntKind.i64.wrap ((n0 : Int) - (tl : Int)) = (n0 : Int) - (tl : Int) := IntWalk.i64_in _ (by omega)
                 go_wp2_with ((with_reducible refine wpl ?_); (first | (apply ld_row (hM := hM) (ht := onec_row _ _ _); rfl; rfl; rfl; (repeat first | exact .head _ _ | apply Pick.tail)) | (apply ld_one (hM := hM) (hv := onec_64) (ht := one3); rfl; rfl; rfl; (repeat first | exact .head _ _ | apply Pick.tail)) | (apply st_cell (hM := hM) (i := 64) (ht := one3); rfl; rfl; rfl; (first | (focus (go_simp; done)) | (focus (go_simp; rfl))); (repeat first | exact .head _ _ | apply Pick.tail); (rw [onec_size]; decide); rfl; intro w1 hM1; clear hM; (rw [onec_hold] at hM1); have hM := hM1; clear hM1) | (apply ld_one (hM := hM); rfl; rfl; rfl; (repeat first | exact .head _ _ | apply Pick.tail); rfl; (first | exact one3 | exact one22))); simp only [q0, q9, q1, q2, q3])
                 refine (free hM ok3 ((n0 : Int) - (tl : Int)) hall.out).mono ?_
                 clear hM
                 rintro e w3 ⟨rfl, hM⟩
                 go_wp2_with ((with_reducible refine wpl ?_); (first | (apply mp_len (hM := hM) (hE := hE) (ht := und53); rfl; rfl; rfl) | (apply ld_row (hM := hM) (ht := onec_row _ _ _); rfl; rfl; rfl; (repeat first | exact .head _ _ | apply Pick.tail)) | (apply ld_one (hM := hM) (hv := onec_64) (ht := one3); rfl; rfl; rfl; (repeat first | exact .head _ _ | apply Pick.tail)) | (apply st_cell (hM := hM) (i := 64) (ht := one3); rfl; rfl; rfl; (first | (focus (go_simp; done)) | (focus (go_simp; rfl))); (repeat first | exact .head _ _ | apply Pick.tail); (rw [onec_size]; decide); rfl; intro w1 hM1; clear hM; (rw [onec_hold] at hM1); have hM := hM1; clear hM1) | (apply ld_one (hM := hM); rfl; rfl; rfl; (repeat first | exact .head _ _ | apply Pick.tail); rfl; (first | exact one3 | exact one22))); simp only [q0, q9, q1, q2, q3])
                 refine (len hM (n0 : Nat) (by rw [hn.out])).mono ?_
                 clear hM
                 rintro e w3 ⟨rfl, hM⟩
                 go_wp2_with ((with_reducible refine wpl ?_); (first | (apply ld_row (hM := hM) (ht := onec_row _ _ _); rfl; rfl; rfl; (repeat first | exact .head _ _ | apply Pick.tail)) | (apply ld_one (hM := hM) (hv := onec_64) (ht := one3); rfl; rfl; rfl; (repeat first | exact .head _ _ | apply Pick.tail)) | (apply st_cell (hM := hM) (i := 64) (ht := one3); rfl; rfl; rfl; (first | (focus (go_simp; done)) | (focus (go_simp; rfl))); (repeat first | exact .head _ _ | apply Pick.tail); (rw [onec_size]; decide); rfl; intro w1 hM1; clear hM; (rw [onec_hold] at hM1); have hM := hM1; clear hM1) | (apply ld_one (hM := hM); rfl; rfl; rfl; (repeat first | exact .head _ _ | apply Pick.tail); rfl; (first | exact one3 | exact one22))); simp only [q0, q9, q1, q2, q3])
                 go_roundg (gk - 1)
                 case measure => have := hgk.out; omega
                 case rel => exact ⟨j + 1, s2, T, es2, clk2, F, R8, hid_ (by have := hgk.out; omega), by go_num, ok3, inv2, hE, hT8, hid_ (by have := hF8.out; omega), hFi, hM.tail.tail⟩
              · as_aux_lemma =>
                 have hbad : oa_ < 0 ∨ 64 < oa_ ∨ 64 - oa_ < (td.length : Int) := by omega
                 replace hgood := hid_ hgood
                 go_wp2_with ((with_reducible refine wpl ?_); (first | (apply ld_row (hM := hM) (ht := onec_row _ _ _); rfl; rfl; rfl; (repeat first | exact .head _ _ | apply Pick.tail)) | (apply ld_one (hM := hM) (hv := onec_64) (ht := one3); rfl; rfl; rfl; (repeat first | exact .head _ _ | apply Pick.tail)) | (apply st_cell (hM := hM) (i := 64) (ht := one3); rfl; rfl; rfl; (first | (focus (go_simp; done)) | (focus (go_simp; rfl))); (repeat first | exact .head _ _ | apply Pick.tail); (rw [onec_size]; decide); rfl; intro w1 hM1; clear hM; (rw [onec_hold] at hM1); have hM := hM1; clear hM1) | (apply ld_one (hM := hM); rfl; rfl; rfl; (repeat first | exact .head _ _ | apply Pick.tail); rfl; (first | exact one3 | exact one22))); simp only [q0, q9, q1, q2, q3])
                 refine (write_bad hM k hkn (decide_eq_true hkp) ok2.n_le _ _ _ _ hbad).mono ?_
                 clear hM
                 rintro e w3 ⟨rfl, hM⟩
                 clear hbad
                 go_upto_region 34 with (first | ((with_reducible refine wpl ?_); apply ld_row (hM := hM) (ht := onec_row _ _ _); rfl; rfl; rfl; (repeat first | exact .head _ _ | apply Pick.tail); simp only [q0, q9, q1, q2, q3]) | ((with_reducible refine wpl ?_); apply ld_one (hM := hM) (hv := onec_64) (ht := one3); rfl; rfl; rfl; (repeat first | exact .head _ _ | apply Pick.tail); simp only [q0, q9, q1, q2, q3]) | ((with_reducible refine wpl ?_); apply st_cell (hM := hM) (i := 64) (ht := one3); rfl; rfl; rfl; (first | (focus (go_simp; done)) | (focus (go_simp; rfl))); (repeat first | exact .head _ _ | apply Pick.tail); (rw [onec_size]; decide); rfl; intro w1 hM1; clear hM; (rw [onec_hold] at hM1); have hM := hM1; clear hM1; simp only [q0, q9, q1, q2, q3]) | ((with_reducible refine wpl ?_); apply ld_one (hM := hM); rfl; rfl; rfl; (repeat first | exact .head _ _ | apply Pick.tail); rfl; (first | exact one3 | exact one22); simp only [q0, q9, q1, q2, q3]))
                 go_cut [19] from 147 to 162 (fun xg wx => ∃ b : Bool, xg = .bool b ∧ Hid (b = true → 0 ≤ oa_ ∧ oa_ ≤ 64 ∧ (td.length : Int) ≤ 64 - oa_) ∧ Mem ⟨w, [(gm, .map es clk)]⟩ wx (arena p ss) (⟨gx, onec ss.D (k * 64) (ss.H k), 58, (0, 0)⟩ :: ⟨gO, #[.int .i64 ok_, .int .i64 op_, .int .i64 oa_, .int .i64 on_, .int .i64 or_, .slice tb td.length tc], 55, (0, 0)⟩ :: R8))
                 case first =>
                  by_cases g0 : 0 ≤ oa_
                  · have f0 : decide (oa_ ≥ 0) = true := decide_eq_true g0
                    by_cases g1 : oa_ ≤ 64
                    · have f1 : decide (oa_ ≤ 64) = true := decide_eq_true g1
                      have hwr : IntKind.i64.wrap (64 - oa_) = 64 - oa_ := IntWalk.i64_in _ (by omega)
                      by_cases g2 : (td.length : Int) ≤ 64 - oa_
                      · have f2 : decide ((td.length : Int) ≤ 64 - oa_) = true := decide_eq_true g2
                        go_wp2_with ((with_reducible refine wpl ?_); (first | (apply ld_row (hM := hM) (ht := onec_row _ _ _); rfl; rfl; rfl; (repeat first | exact .head _ _ | apply Pick.tail)) | (apply ld_one (hM := hM) (hv := onec_64) (ht := one3); rfl; rfl; rfl; (repeat first | exact .head _ _ | apply Pick.tail)) | (apply st_cell (hM := hM) (i := 64) (ht := one3); rfl; rfl; rfl; (first | (focus (go_simp; done)) | (focus (go_simp; rfl))); (repeat first | exact .head _ _ | apply Pick.tail); (rw [onec_size]; decide); rfl; intro w1 hM1; clear hM; (rw [onec_hold] at hM1); have hM := hM1; clear hM1) | (apply ld_one (hM := hM); rfl; rfl; rfl; (repeat first | exact .head _ _ | apply Pick.tail); rfl; (first | exact one3 | exact one22))); simp only [q0, q9, q1, q2, q3])
                        go_meet
                        case rel => exact ⟨true, rfl, hid_ (fun _ => ⟨g0, g1, g2⟩), hM⟩
                      · have f2 : decide ((td.length : Int) ≤ 64 - oa_) = false := decide_eq_false g2
                        go_wp2_with ((with_reducible refine wpl ?_); (first | (apply ld_row (hM := hM) (ht := onec_row _ _ _); rfl; rfl; rfl; (repeat first | exact .head _ _ | apply Pick.tail)) | (apply ld_one (hM := hM) (hv := onec_64) (ht := one3); rfl; rfl; rfl; (repeat first | exact .head _ _ | apply Pick.tail)) | (apply st_cell (hM := hM) (i := 64) (ht := one3); rfl; rfl; rfl; (first | (focus (go_simp; done)) | (focus (go_simp; rfl))); (repeat first | exact .head _ _ | apply Pick.tail); (rw [onec_size]; decide); rfl; intro w1 hM1; clear hM; (rw [onec_hold] at hM1); have hM := hM1; clear hM1) | (apply ld_one (hM := hM); rfl; rfl; rfl; (repeat first | exact .head _ _ | apply Pick.tail); rfl; (first | exact one3 | exact one22))); simp only [q0, q9, q1, q2, q3])
                        go_meet
                        case rel => exact ⟨false, rfl, hid_ (fun h => absurd h (by decide)), hM⟩
                    · have f1 : decide (oa_ ≤ 64) = false := decide_eq_false g1
                      go_wp2_with ((with_reducible refine wpl ?_); (first | (apply ld_row (hM := hM) (ht := onec_row _ _ _); rfl; rfl; rfl; (repeat first | exact .head _ _ | apply Pick.tail)) | (apply ld_one (hM := hM) (hv := onec_64) (ht := one3); rfl; rfl; rfl; (repeat first | exact .head _ _ | apply Pick.tail)) | (apply st_cell (hM := hM) (i := 64) (ht := one3); rfl; rfl; rfl; (first | (focus (go_simp; done)) | (focus (go_simp; rfl))); (repeat first | exact .head _ _ | apply Pick.tail); (rw [onec_size]; decide); rfl; intro w1 hM1; clear hM; (rw [onec_hold] at hM1); have hM := hM1; clear hM1) | (apply ld_one (hM := hM); rfl; rfl; rfl; (repeat first | exact .head _ _ | apply Pick.tail); rfl; (first | exact one3 | exact one22))); simp only [q0, q9, q1, q2, q3])
                      go_meet
                      case rel => exact ⟨false, rfl, hid_ (fun h => absurd h (by decide)), hM⟩
                  · have f0 : decide (oa_ ≥ 0) = false := decide_eq_false g0
                    go_wp2_with ((with_reducible refine wpl ?_); (first | (apply ld_row (hM := hM) (ht := onec_row _ _ _); rfl; rfl; rfl; (repeat first | exact .head _ _ | apply Pick.tail)) | (apply ld_one (hM := hM) (hv := onec_64) (ht := one3); rfl; rfl; rfl; (repeat first | exact .head _ _ | apply Pick.tail)) | (apply st_cell (hM := hM) (i := 64) (ht := one3); rfl; rfl; rfl; (first | (focus (go_simp; done)) | (focus (go_simp; rfl))); (repeat first | exact .head _ _ | apply Pick.tail); (rw [onec_size]; decide); rfl; intro w1 hM1; clear hM; (rw [onec_hold] at hM1); have hM := hM1; clear hM1) | (apply ld_one (hM := hM); rfl; rfl; rfl; (repeat first | exact .head _ _ | apply Pick.tail); rfl; (first | exact one3 | exact one22))); simp only [q0, q9, q1, q2, q3])
                    go_meet
                    case rel => exact ⟨false, rfl, hid_ (fun h => absurd h (by decide)), hM⟩
                 case rest =>
                  obtain ⟨bg, rfl, hbg, hM1⟩ := hcut
                  clear hM
                  have hM := hM1
                  clear hM1
                  cases bg with
                  | true => exact absurd (hbg.out rfl) hgood.out
                  | false =>
                   obtain ⟨tl, htl⟩ : ∃ tl : Nat, (ents ss T).length = tl := ⟨_, rfl⟩
                   have hall : Hid ((ss.m : Int) = (n0 : Int) - (tl : Int)) := hid_ (by have h1 := inv.all; have h2 := hn.out; rw [ents_len] at htl; omega)
                   have htlb : (tl : Int) ≤ (n0 : Int) := by have h1 := inv.all; have h2 := hn.out; rw [ents_len] at htl; omega
                   have hwr0 : IntKind.i64.wrap ((n0 : Int) - (tl : Int)) = (n0 : Int) - (tl : Int) := IntWalk.i64_in _ (by omega)
                   go_wp2_with ((with_reducible refine wpl ?_); (first | (apply ld_row (hM := hM) (ht := onec_row _ _ _); rfl; rfl; rfl; (repeat first | exact .head _ _ | apply Pick.tail)) | (apply ld_one (hM := hM) (hv := onec_64) (ht := one3); rfl; rfl; rfl; (repeat first | exact .head _ _ | apply Pick.tail)) | (apply st_cell (hM := hM) (i := 64) (ht := one3); rfl; rfl; rfl; (first | (focus (go_simp; done)) | (focus (go_simp; rfl))); (repeat first | exact .head _ _ | apply Pick.tail); (rw [onec_size]; decide); rfl; intro w1 hM1; clear hM; (rw [onec_hold] at hM1); have hM := hM1; clear hM1) | (apply ld_one (hM := hM); rfl; rfl; rfl; (repeat first | exact .head _ _ | apply Pick.tail); rfl; (first | exact one3 | exact one22))); simp only [q0, q9, q1, q2, q3])
                   refine (free hM ok2 ((n0 : Int) - (tl : Int)) hall.out).mono ?_
                   clear hM
                   rintro e w3 ⟨rfl, hM⟩
                   go_wp2_with ((with_reducible refine wpl ?_); (first | (apply mp_len (hM := hM) (hE := hE) (ht := und53); rfl; rfl; rfl) | (apply ld_row (hM := hM) (ht := onec_row _ _ _); rfl; rfl; rfl; (repeat first | exact .head _ _ | apply Pick.tail)) | (apply ld_one (hM := hM) (hv := onec_64) (ht := one3); rfl; rfl; rfl; (repeat first | exact .head _ _ | apply Pick.tail)) | (apply st_cell (hM := hM) (i := 64) (ht := one3); rfl; rfl; rfl; (first | (focus (go_simp; done)) | (focus (go_simp; rfl))); (repeat first | exact .head _ _ | apply Pick.tail); (rw [onec_size]; decide); rfl; intro w1 hM1; clear hM; (rw [onec_hold] at hM1); have hM := hM1; clear hM1) | (apply ld_one (hM := hM); rfl; rfl; rfl; (repeat first | exact .head _ _ | apply Pick.tail); rfl; (first | exact one3 | exact one22))); simp only [q0, q9, q1, q2, q3])
                   refine (len hM (n0 : Nat) (by rw [hn.out])).mono ?_
                   clear hM
                   rintro e w3 ⟨rfl, hM⟩
                   go_wp2_with ((with_reducible refine wpl ?_); (first | (apply ld_row (hM := hM) (ht := onec_row _ _ _); rfl; rfl; rfl; (repeat first | exact .head _ _ | apply Pick.tail)) | (apply ld_one (hM := hM) (hv := onec_64) (ht := one3); rfl; rfl; rfl; (repeat first | exact .head _ _ | apply Pick.tail)) | (apply st_cell (hM := hM) (i := 64) (ht := one3); rfl; rfl; rfl; (first | (focus (go_simp; done)) | (focus (go_simp; rfl))); (repeat first | exact .head _ _ | apply Pick.tail); (rw [onec_size]; decide); rfl; intro w1 hM1; clear hM; (rw [onec_hold] at hM1); have hM := hM1; clear hM1) | (apply ld_one (hM := hM); rfl; rfl; rfl; (repeat first | exact .head _ _ | apply Pick.tail); rfl; (first | exact one3 | exact one22))); simp only [q0, q9, q1, q2, q3])
                   go_roundg (gk - 1)
                   case measure => have := hgk.out; omega
                   case rel => exact ⟨j + 1, ss, T, es, clk, F, R8, hid_ (by have := hgk.out; omega), by go_num, ok2, (inv.le' (Nat.le_succ j)), hE, hT8, hid_ (by have := hF8.out; omega), hFi, hM.tail.tail⟩
           by_cases k2 : ok_ = 2
           · as_aux_lemma =>
              have s0 : (ok_ == 0) = false := beq_eq_false_iff_ne.2 k0
              have s1 : (ok_ == 1) = false := beq_eq_false_iff_ne.2 k1
              have s2 : (ok_ == 2) = true := beq_iff_eq.2 k2
              clear k0
              clear k1
              clear k2
              have hHb := inv.le k hkn
              have hjb : (j : Int) ≤ 100 := by omega
              go_wp2_with ((with_reducible refine wpl ?_); (first | (apply ld_row (hM := hM) (ht := onec_row _ _ _); rfl; rfl; rfl; (repeat first | exact .head _ _ | apply Pick.tail)) | (apply ld_one (hM := hM) (hv := onec_64) (ht := one3); rfl; rfl; rfl; (repeat first | exact .head _ _ | apply Pick.tail)) | (apply st_cell (hM := hM) (i := 64) (ht := one3); rfl; rfl; rfl; (first | (focus (go_simp; done)) | (focus (go_simp; rfl))); (repeat first | exact .head _ _ | apply Pick.tail); (rw [onec_size]; decide); rfl; intro w1 hM1; clear hM; (rw [onec_hold] at hM1); have hM := hM1; clear hM1) | (apply ld_one (hM := hM); rfl; rfl; rfl; (repeat first | exact .head _ _ | apply Pick.tail); rfl; (first | exact one3 | exact one22))); simp only [q0, q9, q1, q2, q3])
              refine (hold hM ok2 k hkn hkp (by omega)).mono ?_
              clear hM
              rintro e w3 ⟨s2, rfl, hM, ok3, hD2, hH2, hm2⟩
              obtain ⟨inv2, hoth⟩ := inv.count (s' := s2) (v := ss.H k + 1) (by omega) (by omega) hkT hD2 hH2 hm2
              have hx2 : Hid (onec ss.D (k * 64) (ss.H k + 1) = onec s2.D (k * 64) (s2.H k)) := hid_ (by rw [hD2, hH2, up1_self])
              clear hD2 hH2 hm2
              have hwr : IntKind.i64.wrap (ss.H k + 1) = ss.H k + 1 := IntWalk.i64_in _ (by omega)
              go_upto_region 46 with (first | ((with_reducible refine wpl ?_); apply ld_row (hM := hM) (ht := onec_row _ _ _); rfl; rfl; rfl; (repeat first | exact .head _ _ | apply Pick.tail); simp only [q0, q9, q1, q2, q3]) | ((with_reducible refine wpl ?_); apply ld_one (hM := hM) (hv := onec_64) (ht := one3); rfl; rfl; rfl; (repeat first | exact .head _ _ | apply Pick.tail); simp only [q0, q9, q1, q2, q3]) | ((with_reducible refine wpl ?_); apply st_cell (hM := hM) (i := 64) (ht := one3); rfl; rfl; rfl; (first | (focus (go_simp; done)) | (focus (go_simp; rfl))); (repeat first | exact .head _ _ | apply Pick.tail); (rw [onec_size]; decide); rfl; intro w1 hM1; clear hM; (rw [onec_hold] at hM1); have hM := hM1; clear hM1; simp only [q0, q9, q1, q2, q3]) | ((with_reducible refine wpl ?_); apply ld_one (hM := hM); rfl; rfl; rfl; (repeat first | exact .head _ _ | apply Pick.tail); rfl; (first | exact one3 | exact one22); simp only [q0, q9, q1, q2, q3]))
              rw [hx2.out] at hM
              clear hwr
              go_wp2_with ((with_reducible refine wpl ?_); (first | (apply mp_old (hM := hM) (v := .agg (onec s2.D (k * 64) (s2.H k))) (hne := hne) (hE := hE) (k := (k : Nat)) (hk := ents_mem hkT) (ht := und53) (hkt := und3); rfl; rfl; rfl; rfl; rfl; clear hM; intro es2 clk2 w1 i2 hi2 hE2 hM) | (apply ld_row (hM := hM) (ht := onec_row _ _ _); rfl; rfl; rfl; (repeat first | exact .head _ _ | apply Pick.tail)) | (apply ld_one (hM := hM) (hv := onec_64) (ht := one3); rfl; rfl; rfl; (repeat first | exact .head _ _ | apply Pick.tail)) | (apply st_cell (hM := hM) (i := 64) (ht := one3); rfl; rfl; rfl; (first | (focus (go_simp; done)) | (focus (go_simp; rfl))); (repeat first | exact .head _ _ | apply Pick.tail); (rw [onec_size]; decide); rfl; intro w1 hM1; clear hM; (rw [onec_hold] at hM1); have hM := hM1; clear hM1) | (apply ld_one (hM := hM); rfl; rfl; rfl; (repeat first | exact .head _ _ | apply Pick.tail); rfl; (first | exact one3 | exact one22))); simp only [q0, q9, q1, q2, q3])
              rw [ents_set (s' := s2) inv.nd hi2 hoth] at hE2
              clear hE hi2
              have hE := hE2
              clear hE2
              obtain ⟨tl, htl⟩ : ∃ tl : Nat, (ents s2 T).length = tl := ⟨_, rfl⟩
              have hall : Hid ((s2.m : Int) = (n0 : Int) - (tl : Int)) := hid_ (by have h1 := inv2.all; have h2 := hn.out; rw [ents_len] at htl; omega)
              have htlb : (tl : Int) ≤ (n0 : Int) := by have h1 := inv2.all; have h2 := hn.out; rw [ents_len] at htl; omega
              have hwr0 : IntKind.i64.wrap ((n0 : Int) - (tl : Int)) = (n0 : Int) - (tl : Int) := IntWalk.i64_in _ (by omega)
              go_wp2_with ((with_reducible refine wpl ?_); (first | (apply ld_row (hM := hM) (ht := onec_row _ _ _); rfl; rfl; rfl; (repeat first | exact .head _ _ | apply Pick.tail)) | (apply ld_one (hM := hM) (hv := onec_64) (ht := one3); rfl; rfl; rfl; (repeat first | exact .head _ _ | apply Pick.tail)) | (apply st_cell (hM := hM) (i := 64) (ht := one3); rfl; rfl; rfl; (first | (focus (go_simp; done)) | (focus (go_simp; rfl))); (repeat first | exact .head _ _ | apply Pick.tail); (rw [onec_size]; decide); rfl; intro w1 hM1; clear hM; (rw [onec_hold] at hM1); have hM := hM1; clear hM1) | (apply ld_one (hM := hM); rfl; rfl; rfl; (repeat first | exact .head _ _ | apply Pick.tail); rfl; (first | exact one3 | exact one22))); simp only [q0, q9, q1, q2, q3])
              refine (free hM ok3 ((n0 : Int) - (tl : Int)) hall.out).mono ?_
              clear hM
              rintro e w3 ⟨rfl, hM⟩
              go_wp2_with ((with_reducible refine wpl ?_); (first | (apply mp_len (hM := hM) (hE := hE) (ht := und53); rfl; rfl; rfl) | (apply ld_row (hM := hM) (ht := onec_row _ _ _); rfl; rfl; rfl; (repeat first | exact .head _ _ | apply Pick.tail)) | (apply ld_one (hM := hM) (hv := onec_64) (ht := one3); rfl; rfl; rfl; (repeat first | exact .head _ _ | apply Pick.tail)) | (apply st_cell (hM := hM) (i := 64) (ht := one3); rfl; rfl; rfl; (first | (focus (go_simp; done)) | (focus (go_simp; rfl))); (repeat first | exact .head _ _ | apply Pick.tail); (rw [onec_size]; decide); rfl; intro w1 hM1; clear hM; (rw [onec_hold] at hM1); have hM := hM1; clear hM1) | (apply ld_one (hM := hM); rfl; rfl; rfl; (repeat first | exact .head _ _ | apply Pick.tail); rfl; (first | exact one3 | exact one22))); simp only [q0, q9, q1, q2, q3])
              refine (len hM (n0 : Nat) (by rw [hn.out])).mono ?_
              clear hM
              rintro e w3 ⟨rfl, hM⟩
              go_wp2_with ((with_reducible refine wpl ?_); (first | (apply ld_row (hM := hM) (ht := onec_row _ _ _); rfl; rfl; rfl; (repeat first | exact .head _ _ | apply Pick.tail)) | (apply ld_one (hM := hM) (hv := onec_64) (ht := one3); rfl; rfl; rfl; (repeat first | exact .head _ _ | apply Pick.tail)) | (apply st_cell (hM := hM) (i := 64) (ht := one3); rfl; rfl; rfl; (first | (focus (go_simp; done)) | (focus (go_simp; rfl))); (repeat first | exact .head _ _ | apply Pick.tail); (rw [onec_size]; decide); rfl; intro w1 hM1; clear hM; (rw [onec_hold] at hM1); have hM := hM1; clear hM1) | (apply ld_one (hM := hM); rfl; rfl; rfl; (repeat first | exact .head _ _ | apply Pick.tail); rfl; (first | exact one3 | exact one22))); simp only [q0, q9, q1, q2, q3])
              go_roundg (gk - 1)
              case measure => have := hgk.out; omega
              case rel => exact ⟨j + 1, s2, T, es2, clk2, F, R8, hid_ (by have := hgk.out; omega), by go_num, ok3, inv2, hE, hT8, hid_ (by have := hF8.out; omega), hFi, hM.tail.tail⟩
           by_cases k3 : ok_ = 3
           · as_aux_lemma =>
              have s0 : (ok_ == 0) = false := beq_eq_false_iff_ne.2 k0
              have s1 : (ok_ == 1) = false := beq_eq_false_iff_ne.2 k1
              have s2 : (ok_ == 2) = false := beq_eq_false_iff_ne.2 k2
              have s3 : (ok_ == 3) = true := beq_iff_eq.2 k3
              clear k0
              clear k1
              clear k2
              clear k3
              have hHb := inv.le k hkn
              have hjb : (j : Int) ≤ 100 := by omega
              have hwr : IntKind.i64.wrap (ss.H k - 1) = ss.H k - 1 := IntWalk.i64_in _ (by omega)
              go_wp2_with ((with_reducible refine wpl ?_); (first | (apply ld_row (hM := hM) (ht := onec_row _ _ _); rfl; rfl; rfl; (repeat first | exact .head _ _ | apply Pick.tail)) | (apply ld_one (hM := hM) (hv := onec_64) (ht := one3); rfl; rfl; rfl; (repeat first | exact .head _ _ | apply Pick.tail)) | (apply st_cell (hM := hM) (i := 64) (ht := one3); rfl; rfl; rfl; (first | (focus (go_simp; done)) | (focus (go_simp; rfl))); (repeat first | exact .head _ _ | apply Pick.tail); (rw [onec_size]; decide); rfl; intro w1 hM1; clear hM; (rw [onec_hold] at hM1); have hM := hM1; clear hM1) | (apply ld_one (hM := hM); rfl; rfl; rfl; (repeat first | exact .head _ _ | apply Pick.tail); rfl; (first | exact one3 | exact one22))); simp only [q0, q9, q1, q2, q3])
              refine (drop hM ok2 k hkn hkp).mono ?_
              clear hM
              rintro e w3 ⟨s2, rfl, hM, ok3, hD2, hH2, hm2⟩
              by_cases h1 : ss.H k = 1
              · as_aux_lemma =>
                 have hH3 : s2.H = up1 ss.H k 0 := by rw [hH2, h1]; rfl
                 have hm3 : s2.m = ss.m + 1 := by rw [hm2, if_pos h1]
                 have hz : (ss.H k - 1 == 0) = true := beq_iff_eq.2 (by omega)
                 replace hD2 := hid_ hD2
                 replace hH3 := hid_ hH3
                 replace hm3 := hid_ hm3
                 clear hH2 hm2
                 replace h1 := hid_ h1
                 go_upto_region 54 with (first | ((with_reducible refine wpl ?_); apply mp_old (hM := hM) (v := .agg (onec ss.D (k * 64) (ss.H k - 1))) (hne := hne) (hE := hE) (k := (k : Nat)) (hk := ents_mem hkT) (ht := und53) (hkt := und3); rfl; rfl; rfl; rfl; rfl; clear hM; intro es2 clk2 w1 i2 hi2 hE2 hM; simp only [q0, q9, q1, q2, q3]) | ((with_reducible refine wpl ?_); apply ld_row (hM := hM) (ht := onec_row _ _ _); rfl; rfl; rfl; (repeat first | exact .head _ _ | apply Pick.tail); simp only [q0, q9, q1, q2, q3]) | ((with_reducible refine wpl ?_); apply ld_one (hM := hM) (hv := onec_64) (ht := one3); rfl; rfl; rfl; (repeat first | exact .head _ _ | apply Pick.tail); simp only [q0, q9, q1, q2, q3]) | ((with_reducible refine wpl ?_); apply st_cell (hM := hM) (i := 64) (ht := one3); rfl; rfl; rfl; (first | (focus (go_simp; done)) | (focus (go_simp; rfl))); (repeat first | exact .head _ _ | apply Pick.tail); (rw [onec_size]; decide); rfl; intro w1 hM1; clear hM; (rw [onec_hold] at hM1); have hM := hM1; clear hM1; simp only [q0, q9, q1, q2, q3]) | ((with_reducible refine wpl ?_); apply ld_one (hM := hM); rfl; rfl; rfl; (repeat first | exact .head _ _ | apply Pick.tail); rfl; (first | exact one3 | exact one22); simp only [q0, q9, q1, q2, q3]))
                 obtain ⟨hi2b, hi2k⟩ := ents_at hi2
                 have hE4 := hE2
                 have hmem2 : (((k : Nat) : Int), Value.agg (onec ss.D (k * 64) (ss.H k - 1))) ∈ (ents ss T).set i2 ((k : Int), Value.agg (onec ss.D (k * 64) (ss.H k - 1))) := List.mem_set (by rw [ents_len]; exact hi2b) _
                 clear hE hE2
                 have hE := hE4
                 clear hE4
                 go_wp2_with ((with_reducible refine wpl ?_); (first | (apply mp_del (hM := hM) (hE := hE) (k := (k : Nat)) (hk := hmem2) (hne := hne) (ht := und53) (hkt := und3); rfl; rfl; rfl; rfl; clear hM; intro es3 w1 i3 hi3 hE3 hM) | (apply ld_row (hM := hM) (ht := onec_row _ _ _); rfl; rfl; rfl; (repeat first | exact .head _ _ | apply Pick.tail)) | (apply ld_one (hM := hM) (hv := onec_64) (ht := one3); rfl; rfl; rfl; (repeat first | exact .head _ _ | apply Pick.tail)) | (apply st_cell (hM := hM) (i := 64) (ht := one3); rfl; rfl; rfl; (first | (focus (go_simp; done)) | (focus (go_simp; rfl))); (repeat first | exact .head _ _ | apply Pick.tail); (rw [onec_size]; decide); rfl; intro w1 hM1; clear hM; (rw [onec_hold] at hM1); have hM := hM1; clear hM1) | (apply ld_one (hM := hM); rfl; rfl; rfl; (repeat first | exact .head _ _ | apply Pick.tail); rfl; (first | exact one3 | exact one22))); simp only [q0, q9, q1, q2, q3])
                 obtain ⟨hi3b, hi3k⟩ : i3 = i2 ∧ True := ⟨del_same inv.nd hi2 hi3, trivial⟩
                 rw [hi3b, List.eraseIdx_set_eq] at hE3
                 obtain ⟨inv2, hents⟩ := inv.last (s' := s2) hkT hD2.out hH3.out hm3.out hi2
                 rw [hents] at hE3
                 clear hE hi2 hi3 hents hD2 hH3 hm3
                 have hE := hE3
                 clear hE3
                 obtain ⟨tl, htl⟩ : ∃ tl : Nat, (ents s2 (T.eraseIdx i2)).length = tl := ⟨_, rfl⟩
                 have hall : Hid ((s2.m : Int) = (n0 : Int) - (tl : Int)) := hid_ (by have h1 := inv2.all; have h2 := hn.out; rw [ents_len] at htl; omega)
                 have htlb : (tl : Int) ≤ (n0 : Int) := by have h1 := inv2.all; have h2 := hn.out; rw [ents_len] at htl; omega
                 have hwr0 : IntKind.i64.wrap ((n0 : Int) - (tl : Int)) = (n0 : Int) - (tl : Int) := IntWalk.i64_in _ (by omega)
                 go_wp2_with ((with_reducible refine wpl ?_); (first | (apply ld_row (hM := hM) (ht := onec_row _ _ _); rfl; rfl; rfl; (repeat first | exact .head _ _ | apply Pick.tail)) | (apply ld_one (hM := hM) (hv := onec_64) (ht := one3); rfl; rfl; rfl; (repeat first | exact .head _ _ | apply Pick.tail)) | (apply st_cell (hM := hM) (i := 64) (ht := one3); rfl; rfl; rfl; (first | (focus (go_simp; done)) | (focus (go_simp; rfl))); (repeat first | exact .head _ _ | apply Pick.tail); (rw [onec_size]; decide); rfl; intro w1 hM1; clear hM; (rw [onec_hold] at hM1); have hM := hM1; clear hM1) | (apply ld_one (hM := hM); rfl; rfl; rfl; (repeat first | exact .head _ _ | apply Pick.tail); rfl; (first | exact one3 | exact one22))); simp only [q0, q9, q1, q2, q3])
                 refine (free hM ok3 ((n0 : Int) - (tl : Int)) hall.out).mono ?_
                 clear hM
                 rintro e w3 ⟨rfl, hM⟩
                 go_wp2_with ((with_reducible refine wpl ?_); (first | (apply mp_len (hM := hM) (hE := hE) (ht := und53); rfl; rfl; rfl) | (apply ld_row (hM := hM) (ht := onec_row _ _ _); rfl; rfl; rfl; (repeat first | exact .head _ _ | apply Pick.tail)) | (apply ld_one (hM := hM) (hv := onec_64) (ht := one3); rfl; rfl; rfl; (repeat first | exact .head _ _ | apply Pick.tail)) | (apply st_cell (hM := hM) (i := 64) (ht := one3); rfl; rfl; rfl; (first | (focus (go_simp; done)) | (focus (go_simp; rfl))); (repeat first | exact .head _ _ | apply Pick.tail); (rw [onec_size]; decide); rfl; intro w1 hM1; clear hM; (rw [onec_hold] at hM1); have hM := hM1; clear hM1) | (apply ld_one (hM := hM); rfl; rfl; rfl; (repeat first | exact .head _ _ | apply Pick.tail); rfl; (first | exact one3 | exact one22))); simp only [q0, q9, q1, q2, q3])
                 refine (len hM (n0 : Nat) (by rw [hn.out])).mono ?_
                 clear hM
                 rintro e w3 ⟨rfl, hM⟩
                 go_wp2_with ((with_reducible refine wpl ?_); (first | (apply ld_row (hM := hM) (ht := onec_row _ _ _); rfl; rfl; rfl; (repeat first | exact .head _ _ | apply Pick.tail)) | (apply ld_one (hM := hM) (hv := onec_64) (ht := one3); rfl; rfl; rfl; (repeat first | exact .head _ _ | apply Pick.tail)) | (apply st_cell (hM := hM) (i := 64) (ht := one3); rfl; rfl; rfl; (first | (focus (go_simp; done)) | (focus (go_simp; rfl))); (repeat first | exact .head _ _ | apply Pick.tail); (rw [onec_size]; decide); rfl; intro w1 hM1; clear hM; (rw [onec_hold] at hM1); have hM := hM1; clear hM1) | (apply ld_one (hM := hM); rfl; rfl; rfl; (repeat first | exact .head _ _ | apply Pick.tail); rfl; (first | exact one3 | exact one22))); simp only [q0, q9, q1, q2, q3])
                 go_roundg (gk - 1)
                 case measure => have := hgk.out; omega
                 case rel => exact ⟨j + 1, s2, (T.eraseIdx i2), es3, clk2, F, R8, hid_ (by have := hgk.out; omega), by go_num, ok3, inv2, hE, hT8, hid_ (by have := hF8.out; omega), hFi, hM.tail.tail⟩
              · as_aux_lemma =>
                 have hz : (ss.H k - 1 == 0) = false := beq_eq_false_iff_ne.2 (by omega)
                 obtain ⟨inv2, hoth⟩ := inv.count (s' := s2) (v := ss.H k - 1) (by omega) (by omega) hkT hD2 hH2 (by rw [hm2, if_neg h1]; rfl)
                 have hx2 : Hid (onec ss.D (k * 64) (ss.H k - 1) = onec s2.D (k * 64) (s2.H k)) := hid_ (by rw [hD2, hH2, up1_self])
                 clear hD2 hH2 hm2
                 replace h1 := hid_ h1
                 go_upto_region 54 with (first | ((with_reducible refine wpl ?_); apply mp_old (hM := hM) (v := .agg (onec ss.D (k * 64) (ss.H k - 1))) (hne := hne) (hE := hE) (k := (k : Nat)) (hk := ents_mem hkT) (ht := und53) (hkt := und3); rfl; rfl; rfl; rfl; rfl; clear hM; intro es2 clk2 w1 i2 hi2 hE2 hM; simp only [q0, q9, q1, q2, q3]) | ((with_reducible refine wpl ?_); apply ld_row (hM := hM) (ht := onec_row _ _ _); rfl; rfl; rfl; (repeat first | exact .head _ _ | apply Pick.tail); simp only [q0, q9, q1, q2, q3]) | ((with_reducible refine wpl ?_); apply ld_one (hM := hM) (hv := onec_64) (ht := one3); rfl; rfl; rfl; (repeat first | exact .head _ _ | apply Pick.tail); simp only [q0, q9, q1, q2, q3]) | ((with_reducible refine wpl ?_); apply st_cell (hM := hM) (i := 64) (ht := one3); rfl; rfl; rfl; (first | (focus (go_simp; done)) | (focus (go_simp; rfl))); (repeat first | exact .head _ _ | apply Pick.tail); (rw [onec_size]; decide); rfl; intro w1 hM1; clear hM; (rw [onec_hold] at hM1); have hM := hM1; clear hM1; simp only [q0, q9, q1, q2, q3]) | ((with_reducible refine wpl ?_); apply ld_one (hM := hM); rfl; rfl; rfl; (repeat first | exact .head _ _ | apply Pick.tail); rfl; (first | exact one3 | exact one22); simp only [q0, q9, q1, q2, q3]))
                 rw [hx2.out, ents_set (s' := s2) inv.nd hi2 hoth] at hE2
                 clear hE hi2
                 have hE := hE2
                 clear hE2
                 go_wp2_with ((with_reducible refine wpl ?_); (first | (apply ld_row (hM := hM) (ht := onec_row _ _ _); rfl; rfl; rfl; (repeat first | exact .head _ _ | apply Pick.tail)) | (apply ld_one (hM := hM) (hv := onec_64) (ht := one3); rfl; rfl; rfl; (repeat first | exact .head _ _ | apply Pick.tail)) | (apply st_cell (hM := hM) (i := 64) (ht := one3); rfl; rfl; rfl; (first | (focus (go_simp; done)) | (focus (go_simp; rfl))); (repeat first | exact .head _ _ | apply Pick.tail); (rw [onec_size]; decide); rfl; intro w1 hM1; clear hM; (rw [onec_hold] at hM1); have hM := hM1; clear hM1) | (apply ld_one (hM := hM); rfl; rfl; rfl; (repeat first | exact .head _ _ | apply Pick.tail); rfl; (first | exact one3 | exact one22))); simp only [q0, q9, q1, q2, q3])
                 obtain ⟨tl, htl⟩ : ∃ tl : Nat, (ents s2 T).length = tl := ⟨_, rfl⟩
                 have hall : Hid ((s2.m : Int) = (n0 : Int) - (tl : Int)) := hid_ (by have h1 := inv2.all; have h2 := hn.out; rw [ents_len] at htl; omega)
                 have htlb : (tl : Int) ≤ (n0 : Int) := by have h1 := inv2.all; have h2 := hn.out; rw [ents_len] at htl; omega
                 have hwr0 : IntKind.i64.wrap ((n0 : Int) - (tl : Int)) = (n0 : Int) - (tl : Int) := IntWalk.i64_in _ (by omega)
                 go_wp2_with ((with_reducible refine wpl ?_); (first | (apply ld_row (hM := hM) (ht := onec_row _ _ _); rfl; rfl; rfl; (repeat first | exact .head _ _ | apply Pick.tail)) | (apply ld_one (hM := hM) (hv := onec_64) (ht := one3); rfl; rfl; rfl; (repeat first | exact .head _ _ | apply Pick.tail)) | (apply st_cell (hM := hM) (i := 64) (ht := one3); rfl; rfl; rfl; (first | (focus (go_simp; done)) | (focus (go_simp; rfl))); (repeat first | exact .head _ _ | apply Pick.tail); (rw [onec_size]; decide); rfl; intro w1 hM1; clear hM; (rw [onec_hold] at hM1); have hM := hM1; clear hM1) | (apply ld_one (hM := hM); rfl; rfl; rfl; (repeat first | exact .head _ _ | apply Pick.tail); rfl; (first | exact one3 | exact one22))); simp only [q0, q9, q1, q2, q3])
                 refine (free hM ok3 ((n0 : Int) - (tl : Int)) hall.out).mono ?_
                 clear hM
                 rintro e w3 ⟨rfl, hM⟩
                 go_wp2_with ((with_reducible refine wpl ?_); (first | (apply mp_len (hM := hM) (hE := hE) (ht := und53); rfl; rfl; rfl) | (apply ld_row (hM := hM) (ht := onec_row _ _ _); rfl; rfl; rfl; (repeat first | exact .head _ _ | apply Pick.tail)) | (apply ld_one (hM := hM) (hv := onec_64) (ht := one3); rfl; rfl; rfl; (repeat first | exact .head _ _ | apply Pick.tail)) | (apply st_cell (hM := hM) (i := 64) (ht := one3); rfl; rfl; rfl; (first | (focus (go_simp; done)) | (focus (go_simp; rfl))); (repeat first | exact .head _ _ | apply Pick.tail); (rw [onec_size]; decide); rfl; intro w1 hM1; clear hM; (rw [onec_hold] at hM1); have hM := hM1; clear hM1) | (apply ld_one (hM := hM); rfl; rfl; rfl; (repeat first | exact .head _ _ | apply Pick.tail); rfl; (first | exact one3 | exact one22))); simp only [q0, q9, q1, q2, q3])
                 refine (len hM (n0 : Nat) (by rw [hn.out])).mono ?_
                 clear hM
                 rintro e w3 ⟨rfl, hM⟩
                 go_wp2_with ((with_reducible refine wpl ?_); (first | (apply ld_row (hM := hM) (ht := onec_row _ _ _); rfl; rfl; rfl; (repeat first | exact .head _ _ | apply Pick.tail)) | (apply ld_one (hM := hM) (hv := onec_64) (ht := one3); rfl; rfl; rfl; (repeat first | exact .head _ _ | apply Pick.tail)) | (apply st_cell (hM := hM) (i := 64) (ht := one3); rfl; rfl; rfl; (first | (focus (go_simp; done)) | (focus (go_simp; rfl))); (repeat first | exact .head _ _ | apply Pick.tail); (rw [onec_size]; decide); rfl; intro w1 hM1; clear hM; (rw [onec_hold] at hM1); have hM := hM1; clear hM1) | (apply ld_one (hM := hM); rfl; rfl; rfl; (repeat first | exact .head _ _ | apply Pick.tail); rfl; (first | exact one3 | exact one22))); simp only [q0, q9, q1, q2, q3])
                 go_roundg (gk - 1)
                 case measure => have := hgk.out; omega
                 case rel => exact ⟨j + 1, s2, T, es2, clk2, F, R8, hid_ (by have := hgk.out; omega), by go_num, ok3, inv2, hE, hT8, hid_ (by have := hF8.out; omega), hFi, hM.tail.tail⟩
           by_cases k4 : ok_ = 4
           · as_aux_lemma =>
              have s0 : (ok_ == 0) = false := beq_eq_false_iff_ne.2 k0
              have s1 : (ok_ == 1) = false := beq_eq_false_iff_ne.2 k1
              have s2 : (ok_ == 2) = false := beq_eq_false_iff_ne.2 k2
              have s3 : (ok_ == 3) = false := beq_eq_false_iff_ne.2 k3
              have s4 : (ok_ == 4) = true := beq_iff_eq.2 k4
              clear k0
              clear k1
              clear k2
              clear k3
              clear k4
              by_cases hgood : 0 ≤ oa_ ∧ oa_ ≤ 64 ∧ 0 ≤ on_ ∧ on_ ≤ 64 - oa_
              · as_aux_lemma =>
                 obtain ⟨g0, g1, g2, g3⟩ := hgood
                 obtain ⟨q, rfl⟩ := Int.eq_ofNat_of_zero_le g0
                 obtain ⟨n, rfl⟩ := Int.eq_ofNat_of_zero_le g2
                 have f0 : decide ((q : Int) ≥ 0) = true := decide_eq_true g0
                 have f1 : decide ((q : Int) ≤ 64) = true := decide_eq_true g1
                 have f2 : decide ((n : Int) ≥ 0) = true := decide_eq_true g2
                 have f3 : decide ((n : Int) ≤ 64 - (q : Int)) = true := decide_eq_true g3
                 have hwr : IntKind.i64.wrap (64 - (q : Int)) = 64 - (q : Int) := IntWalk.i64_in _ (by omega)
                 have hwr2 : IntKind.i64.wrap ((q : Int) + (n : Int)) = (q : Int) + (n : Int) := IntWalk.i64_in _ (by omega)
                 have hq : q ≤ 64 := by omega
                 have hqn : q + n ≤ 64 := by omega
                 go_wp2_with ((with_reducible refine wpl ?_); (first | (apply ld_row (hM := hM) (ht := onec_row _ _ _); rfl; rfl; rfl; (repeat first | exact .head _ _ | apply Pick.tail)) | (apply ld_one (hM := hM) (hv := onec_64) (ht := one3); rfl; rfl; rfl; (repeat first | exact .head _ _ | apply Pick.tail)) | (apply st_cell (hM := hM) (i := 64) (ht := one3); rfl; rfl; rfl; (first | (focus (go_simp; done)) | (focus (go_simp; rfl))); (repeat first | exact .head _ _ | apply Pick.tail); (rw [onec_size]; decide); rfl; intro w1 hM1; clear hM; (rw [onec_hold] at hM1); have hM := hM1; clear hM1) | (apply ld_one (hM := hM); rfl; rfl; rfl; (repeat first | exact .head _ _ | apply Pick.tail); rfl; (first | exact one3 | exact one22))); simp only [q0, q9, q1, q2, q3])
                 refine (read hM ok2 k hkn hkp q n rfl rfl hq (by omega)).mono ?_
                 clear hM
                 rintro e w3 ⟨g5, c5, cs5, rfl, hM, hs5, hc5, hg5⟩
                 replace hg5 := hid_ hg5
                 clear hs5
                 go_upto_region 61 with (first | ((with_reducible refine wpl ?_); apply ld_row (hM := hM) (ht := onec_row _ _ _); rfl; rfl; rfl; (repeat first | exact .head _ _ | apply Pick.tail); simp only [q0, q9, q1, q2, q3]) | ((with_reducible refine wpl ?_); apply ld_one (hM := hM) (hv := onec_64) (ht := one3); rfl; rfl; rfl; (repeat first | exact .head _ _ | apply Pick.tail); simp only [q0, q9, q1, q2, q3]) | ((with_reducible refine wpl ?_); apply st_cell (hM := hM) (i := 64) (ht := one3); rfl; rfl; rfl; (first | (focus (go_simp; done)) | (focus (go_simp; rfl))); (repeat first | exact .head _ _ | apply Pick.tail); (rw [onec_size]; decide); rfl; intro w1 hM1; clear hM; (rw [onec_hold] at hM1); have hM := hM1; clear hM1; simp only [q0, q9, q1, q2, q3]) | ((with_reducible refine wpl ?_); apply ld_one (hM := hM); rfl; rfl; rfl; (repeat first | exact .head _ _ | apply Pick.tail); rfl; (first | exact one3 | exact one22); simp only [q0, q9, q1, q2, q3]))
                 refine reg_begin (fun w' => Mem ⟨w, [(gm, .map es clk)]⟩ w' [] [⟨g5, cs5, 5, (0, 0)⟩, ⟨gx, onec ss.D (k * 64) (ss.H k), 58, (0, 0)⟩, ⟨gO, #[.int .i64 ok_, .int .i64 op_, .int .i64 (q : Nat), .int .i64 (n : Nat), .int .i64 or_, .slice tb td.length tc], 55, (0, 0)⟩]) (by kernel_rfl) hM (fun wd hMd => ?_)
                 clear hM
                 have hM := hMd
                 clear hMd
                 have hS := (hM.swap.none.swap.sub (.cons (.head _ _) (.cons (.head _ _) (.cons (.head _ _) (.nil _)))))
                 refine rf 0 (.bool true) hS ?_
                 simp only [q0, q9, q1, q2, q3]
                 refine rf 1 (.bool true) hS ?_
                 simp only [q0, q9, q1, q2, q3]
                 refine rf 2 (.bool true) hS ?_
                 simp only [q0, q9, q1, q2, q3]
                 refine rf 3 (.bool true) hS ?_
                 simp only [q0, q9, q1, q2, q3]
                 refine rf 4 (.bool true) hS ?_
                 simp only [q0, q9, q1, q2, q3]
                 refine rf 5 (.slice (some ⟨g5, 0, none⟩) n c5) hS ?_
                 simp only [q0, q9, q1, q2, q3]
                 refine rg_cv 6 (bs := seg ss.D (k * 64 + q) n) rfl (by kernel_rfl) (by kernel_rfl) (by kernel_rfl) (fun _ _ _ h => h) (by rfl) rfl und22 und5 und9 (fun w' h' => read_seg (.head _ _) hc5 hg5.out h') hS ?_
                 simp only [q0, q9, q1, q2, q3]
                 refine rf 7 (.pointer (some ⟨gx, 0, none⟩)) hS ?_
                 simp only [q0, q9, q1, q2, q3]
                 refine rf 8 (.pointer (some ⟨gO, 2, none⟩)) hS ?_
                 simp only [q0, q9, q1, q2, q3]
                 refine rg_one 9 (v := .int .i64 (q : Nat)) rfl (by kernel_rfl) (by kernel_rfl) (by kernel_rfl) (fun _ _ _ h => h) (by rfl) rfl rfl (fun w' h' => (h'.cell (.tail (.tail (.head _ _))) 2).trans rfl) one3 hS ?_
                 simp only [q0, q9, q1, q2, q3]
                 refine rf 10 (.pointer (some ⟨gO, 2, none⟩)) hS ?_
                 simp only [q0, q9, q1, q2, q3]
                 refine rg_one 11 (v := .int .i64 (q : Nat)) rfl (by kernel_rfl) (by kernel_rfl) (by kernel_rfl) (fun _ _ _ h => h) (by rfl) rfl rfl (fun w' h' => (h'.cell (.tail (.tail (.head _ _))) 2).trans rfl) one3 hS ?_
                 simp only [q0, q9, q1, q2, q3]
                 refine rf 12 (.pointer (some ⟨gO, 3, none⟩)) hS ?_
                 simp only [q0, q9, q1, q2, q3]
                 refine rg_one 13 (v := .int .i64 (n : Nat)) rfl (by kernel_rfl) (by kernel_rfl) (by kernel_rfl) (fun _ _ _ h => h) (by rfl) rfl rfl (fun w' h' => (h'.cell (.tail (.tail (.head _ _))) 3).trans rfl) one3 hS ?_
                 simp only [q0, q9, q1, q2, q3]
                 refine rf 14 (.int .i64 ((q : Int) + n)) hS ?_
                 simp only [q0, q9, q1, q2, q3]
                 refine rv 15 (.slice (some ⟨gx, 0 + skp 64 q 1, none⟩) (q + n - q) (64 - q)) hS (fun w => run_arr_lh w q (q + n) rfl rfl rfl rfl rfl (Int.natCast_add q n).symm (by omega) hqn) ?_
                 simp only [q0, q9, q1, q2, q3]
                 refine rg_cv 16 (bs := seg ss.D (k * 64 + q) n) rfl (by kernel_rfl) (by kernel_rfl) (by kernel_rfl) (fun _ _ _ h => h) (by rfl) rfl und22 und5 und9 (fun w' h' => by rw [Nat.add_sub_cancel_left]; exact onec_bytes (.tail (.head _ _)) hq (by omega) (by omega) h') hS ?_
                 simp only [q0, q9, q1, q2, q3]
                 refine rf 17 (.bool false) hS ?_
                 simp only [q0, q9, q1, q2, q3]
                 refine rf 18 (.bool false) hS ?_
                 simp only [q0, q9, q1, q2, q3]
                 refine rf 19 (.bool false) hS ?_
                 simp only [q0, q9, q1, q2, q3]
                 refine rf 20 (.int .i64 0) hS ?_
                 simp only [q0, q9, q1, q2, q3]
                 refine rf 21 (.bool false) hS ?_
                 simp only [q0, q9, q1, q2, q3]
                 refine rf 22 (.bool false) hS ?_
                 simp only [q0, q9, q1, q2, q3]
                 refine rk 23 hS ?_
                 simp only [q0, q9, q1, q2, q3]
                 refine rk 24 hS ?_
                 simp only [q0, q9, q1, q2, q3]
                 refine rk 25 hS ?_
                 simp only [q0, q9, q1, q2, q3]
                 refine rf 26 (.bool false) hS ?_
                 simp only [q0, q9, q1, q2, q3]
                 refine rf 27 (.bool false) hS ?_
                 simp only [q0, q9, q1, q2, q3]
                 refine reg_done (by kernel_rfl) ?_
                 clear hS
                 clear hwr hwr2 hqn
                 obtain ⟨tl, htl⟩ : ∃ tl : Nat, (ents ss T).length = tl := ⟨_, rfl⟩
                 have hall : Hid ((ss.m : Int) = (n0 : Int) - (tl : Int)) := hid_ (by have h1 := inv.all; have h2 := hn.out; rw [ents_len] at htl; omega)
                 have htlb : (tl : Int) ≤ (n0 : Int) := by have h1 := inv.all; have h2 := hn.out; rw [ents_len] at htl; omega
                 have hwr0 : IntKind.i64.wrap ((n0 : Int) - (tl : Int)) = (n0 : Int) - (tl : Int) := IntWalk.i64_in _ (by omega)
                 go_wp2_with ((with_reducible refine wpl ?_); (first | (apply ld_row (hM := hM) (ht := onec_row _ _ _); rfl; rfl; rfl; (repeat first | exact .head _ _ | apply Pick.tail)) | (apply ld_one (hM := hM) (hv := onec_64) (ht := one3); rfl; rfl; rfl; (repeat first | exact .head _ _ | apply Pick.tail)) | (apply st_cell (hM := hM) (i := 64) (ht := one3); rfl; rfl; rfl; (first | (focus (go_simp; done)) | (focus (go_simp; rfl))); (repeat first | exact .head _ _ | apply Pick.tail); (rw [onec_size]; decide); rfl; intro w1 hM1; clear hM; (rw [onec_hold] at hM1); have hM := hM1; clear hM1) | (apply ld_one (hM := hM); rfl; rfl; rfl; (repeat first | exact .head _ _ | apply Pick.tail); rfl; (first | exact one3 | exact one22))); simp only [q0, q9, q1, q2, q3])
                 refine (free hM ok2 ((n0 : Int) - (tl : Int)) hall.out).mono ?_
                 clear hM
                 rintro e w3 ⟨rfl, hM⟩
                 go_wp2_with ((with_reducible refine wpl ?_); (first | (apply mp_len (hM := hM) (hE := hE) (ht := und53); rfl; rfl; rfl) | (apply ld_row (hM := hM) (ht := onec_row _ _ _); rfl; rfl; rfl; (repeat first | exact .head _ _ | apply Pick.tail)) | (apply ld_one (hM := hM) (hv := onec_64) (ht := one3); rfl; rfl; rfl; (repeat first | exact .head _ _ | apply Pick.tail)) | (apply st_cell (hM := hM) (i := 64) (ht := one3); rfl; rfl; rfl; (first | (focus (go_simp; done)) | (focus (go_simp; rfl))); (repeat first | exact .head _ _ | apply Pick.tail); (rw [onec_size]; decide); rfl; intro w1 hM1; clear hM; (rw [onec_hold] at hM1); have hM := hM1; clear hM1) | (apply ld_one (hM := hM); rfl; rfl; rfl; (repeat first | exact .head _ _ | apply Pick.tail); rfl; (first | exact one3 | exact one22))); simp only [q0, q9, q1, q2, q3])
                 refine (len hM (n0 : Nat) (by rw [hn.out])).mono ?_
                 clear hM
                 rintro e w3 ⟨rfl, hM⟩
                 go_wp2_with ((with_reducible refine wpl ?_); (first | (apply ld_row (hM := hM) (ht := onec_row _ _ _); rfl; rfl; rfl; (repeat first | exact .head _ _ | apply Pick.tail)) | (apply ld_one (hM := hM) (hv := onec_64) (ht := one3); rfl; rfl; rfl; (repeat first | exact .head _ _ | apply Pick.tail)) | (apply st_cell (hM := hM) (i := 64) (ht := one3); rfl; rfl; rfl; (first | (focus (go_simp; done)) | (focus (go_simp; rfl))); (repeat first | exact .head _ _ | apply Pick.tail); (rw [onec_size]; decide); rfl; intro w1 hM1; clear hM; (rw [onec_hold] at hM1); have hM := hM1; clear hM1) | (apply ld_one (hM := hM); rfl; rfl; rfl; (repeat first | exact .head _ _ | apply Pick.tail); rfl; (first | exact one3 | exact one22))); simp only [q0, q9, q1, q2, q3])
                 go_roundg (gk - 1)
                 case measure => have := hgk.out; omega
                 case rel => exact ⟨j + 1, ss, T, es, clk, F, R8, hid_ (by have := hgk.out; omega), by go_num, ok2, (inv.le' (Nat.le_succ j)), hE, hT8, hid_ (by have := hF8.out; omega), hFi, hM.tail.tail.tail⟩
              · as_aux_lemma =>
                 have hbad : oa_ < 0 ∨ 64 < oa_ ∨ on_ < 0 ∨ 64 - oa_ < on_ := by omega
                 replace hgood := hid_ hgood
                 go_wp2_with ((with_reducible refine wpl ?_); (first | (apply ld_row (hM := hM) (ht := onec_row _ _ _); rfl; rfl; rfl; (repeat first | exact .head _ _ | apply Pick.tail)) | (apply ld_one (hM := hM) (hv := onec_64) (ht := one3); rfl; rfl; rfl; (repeat first | exact .head _ _ | apply Pick.tail)) | (apply st_cell (hM := hM) (i := 64) (ht := one3); rfl; rfl; rfl; (first | (focus (go_simp; done)) | (focus (go_simp; rfl))); (repeat first | exact .head _ _ | apply Pick.tail); (rw [onec_size]; decide); rfl; intro w1 hM1; clear hM; (rw [onec_hold] at hM1); have hM := hM1; clear hM1) | (apply ld_one (hM := hM); rfl; rfl; rfl; (repeat first | exact .head _ _ | apply Pick.tail); rfl; (first | exact one3 | exact one22))); simp only [q0, q9, q1, q2, q3])
                 refine (read_bad hM k hkn (decide_eq_true hkp) ok2.n_le _ _ hbad).mono ?_
                 clear hM
                 rintro e w3 ⟨rfl, hM⟩
                 clear hbad
                 go_upto_region 58 with (first | ((with_reducible refine wpl ?_); apply ld_row (hM := hM) (ht := onec_row _ _ _); rfl; rfl; rfl; (repeat first | exact .head _ _ | apply Pick.tail); simp only [q0, q9, q1, q2, q3]) | ((with_reducible refine wpl ?_); apply ld_one (hM := hM) (hv := onec_64) (ht := one3); rfl; rfl; rfl; (repeat first | exact .head _ _ | apply Pick.tail); simp only [q0, q9, q1, q2, q3]) | ((with_reducible refine wpl ?_); apply st_cell (hM := hM) (i := 64) (ht := one3); rfl; rfl; rfl; (first | (focus (go_simp; done)) | (focus (go_simp; rfl))); (repeat first | exact .head _ _ | apply Pick.tail); (rw [onec_size]; decide); rfl; intro w1 hM1; clear hM; (rw [onec_hold] at hM1); have hM := hM1; clear hM1; simp only [q0, q9, q1, q2, q3]) | ((with_reducible refine wpl ?_); apply ld_one (hM := hM); rfl; rfl; rfl; (repeat first | exact .head _ _ | apply Pick.tail); rfl; (first | exact one3 | exact one22); simp only [q0, q9, q1, q2, q3]))
                 go_cut [24] from 271 to 291 (fun xg wx => ∃ b : Bool, xg = .bool b ∧ Hid (b = true → 0 ≤ oa_ ∧ oa_ ≤ 64 ∧ 0 ≤ on_ ∧ on_ ≤ 64 - oa_) ∧ Mem ⟨w, [(gm, .map es clk)]⟩ wx (arena p ss) (⟨gx, onec ss.D (k * 64) (ss.H k), 58, (0, 0)⟩ :: ⟨gO, #[.int .i64 ok_, .int .i64 op_, .int .i64 oa_, .int .i64 on_, .int .i64 or_, .slice tb td.length tc], 55, (0, 0)⟩ :: R8))
                 case first =>
                  by_cases g0 : 0 ≤ oa_
                  · have f0 : decide (oa_ ≥ 0) = true := decide_eq_true g0
                    by_cases g1 : oa_ ≤ 64
                    · have f1 : decide (oa_ ≤ 64) = true := decide_eq_true g1
                      have hwr : IntKind.i64.wrap (64 - oa_) = 64 - oa_ := IntWalk.i64_in _ (by omega)
                      by_cases g2 : 0 ≤ on_
                      · have f2 : decide (on_ ≥ 0) = true := decide_eq_true g2
                        by_cases g3 : on_ ≤ 64 - oa_
                        · have f3 : decide (on_ ≤ 64 - oa_) = true := decide_eq_true g3
                          go_wp2_with ((with_reducible refine wpl ?_); (first | (apply ld_row (hM := hM) (ht := onec_row _ _ _); rfl; rfl; rfl; (repeat first | exact .head _ _ | apply Pick.tail)) | (apply ld_one (hM := hM) (hv := onec_64) (ht := one3); rfl; rfl; rfl; (repeat first | exact .head _ _ | apply Pick.tail)) | (apply st_cell (hM := hM) (i := 64) (ht := one3); rfl; rfl; rfl; (first | (focus (go_simp; done)) | (focus (go_simp; rfl))); (repeat first | exact .head _ _ | apply Pick.tail); (rw [onec_size]; decide); rfl; intro w1 hM1; clear hM; (rw [onec_hold] at hM1); have hM := hM1; clear hM1) | (apply ld_one (hM := hM); rfl; rfl; rfl; (repeat first | exact .head _ _ | apply Pick.tail); rfl; (first | exact one3 | exact one22))); simp only [q0, q9, q1, q2, q3])
                          go_meet
                          case rel => exact ⟨true, rfl, hid_ (fun _ => ⟨g0, g1, g2, g3⟩), hM⟩
                        · have f3 : decide (on_ ≤ 64 - oa_) = false := decide_eq_false g3
                          go_wp2_with ((with_reducible refine wpl ?_); (first | (apply ld_row (hM := hM) (ht := onec_row _ _ _); rfl; rfl; rfl; (repeat first | exact .head _ _ | apply Pick.tail)) | (apply ld_one (hM := hM) (hv := onec_64) (ht := one3); rfl; rfl; rfl; (repeat first | exact .head _ _ | apply Pick.tail)) | (apply st_cell (hM := hM) (i := 64) (ht := one3); rfl; rfl; rfl; (first | (focus (go_simp; done)) | (focus (go_simp; rfl))); (repeat first | exact .head _ _ | apply Pick.tail); (rw [onec_size]; decide); rfl; intro w1 hM1; clear hM; (rw [onec_hold] at hM1); have hM := hM1; clear hM1) | (apply ld_one (hM := hM); rfl; rfl; rfl; (repeat first | exact .head _ _ | apply Pick.tail); rfl; (first | exact one3 | exact one22))); simp only [q0, q9, q1, q2, q3])
                          go_meet
                          case rel => exact ⟨false, rfl, hid_ (fun h => absurd h (by decide)), hM⟩
                      · have f2 : decide (on_ ≥ 0) = false := decide_eq_false g2
                        go_wp2_with ((with_reducible refine wpl ?_); (first | (apply ld_row (hM := hM) (ht := onec_row _ _ _); rfl; rfl; rfl; (repeat first | exact .head _ _ | apply Pick.tail)) | (apply ld_one (hM := hM) (hv := onec_64) (ht := one3); rfl; rfl; rfl; (repeat first | exact .head _ _ | apply Pick.tail)) | (apply st_cell (hM := hM) (i := 64) (ht := one3); rfl; rfl; rfl; (first | (focus (go_simp; done)) | (focus (go_simp; rfl))); (repeat first | exact .head _ _ | apply Pick.tail); (rw [onec_size]; decide); rfl; intro w1 hM1; clear hM; (rw [onec_hold] at hM1); have hM := hM1; clear hM1) | (apply ld_one (hM := hM); rfl; rfl; rfl; (repeat first | exact .head _ _ | apply Pick.tail); rfl; (first | exact one3 | exact one22))); simp only [q0, q9, q1, q2, q3])
                        go_meet
                        case rel => exact ⟨false, rfl, hid_ (fun h => absurd h (by decide)), hM⟩
                    · have f1 : decide (oa_ ≤ 64) = false := decide_eq_false g1
                      go_wp2_with ((with_reducible refine wpl ?_); (first | (apply ld_row (hM := hM) (ht := onec_row _ _ _); rfl; rfl; rfl; (repeat first | exact .head _ _ | apply Pick.tail)) | (apply ld_one (hM := hM) (hv := onec_64) (ht := one3); rfl; rfl; rfl; (repeat first | exact .head _ _ | apply Pick.tail)) | (apply st_cell (hM := hM) (i := 64) (ht := one3); rfl; rfl; rfl; (first | (focus (go_simp; done)) | (focus (go_simp; rfl))); (repeat first | exact .head _ _ | apply Pick.tail); (rw [onec_size]; decide); rfl; intro w1 hM1; clear hM; (rw [onec_hold] at hM1); have hM := hM1; clear hM1) | (apply ld_one (hM := hM); rfl; rfl; rfl; (repeat first | exact .head _ _ | apply Pick.tail); rfl; (first | exact one3 | exact one22))); simp only [q0, q9, q1, q2, q3])
                      go_meet
                      case rel => exact ⟨false, rfl, hid_ (fun h => absurd h (by decide)), hM⟩
                  · have f0 : decide (oa_ ≥ 0) = false := decide_eq_false g0
                    go_wp2_with ((with_reducible refine wpl ?_); (first | (apply ld_row (hM := hM) (ht := onec_row _ _ _); rfl; rfl; rfl; (repeat first | exact .head _ _ | apply Pick.tail)) | (apply ld_one (hM := hM) (hv := onec_64) (ht := one3); rfl; rfl; rfl; (repeat first | exact .head _ _ | apply Pick.tail)) | (apply st_cell (hM := hM) (i := 64) (ht := one3); rfl; rfl; rfl; (first | (focus (go_simp; done)) | (focus (go_simp; rfl))); (repeat first | exact .head _ _ | apply Pick.tail); (rw [onec_size]; decide); rfl; intro w1 hM1; clear hM; (rw [onec_hold] at hM1); have hM := hM1; clear hM1) | (apply ld_one (hM := hM); rfl; rfl; rfl; (repeat first | exact .head _ _ | apply Pick.tail); rfl; (first | exact one3 | exact one22))); simp only [q0, q9, q1, q2, q3])
                    go_meet
                    case rel => exact ⟨false, rfl, hid_ (fun h => absurd h (by decide)), hM⟩
                 case rest =>
                  obtain ⟨bg, rfl, hbg, hM1⟩ := hcut
                  clear hM
                  have hM := hM1
                  clear hM1
                  cases bg with
                  | true => exact absurd (hbg.out rfl) hgood.out
                  | false =>
                   go_upto_region 61 with (first | ((with_reducible refine wpl ?_); apply ld_row (hM := hM) (ht := onec_row _ _ _); rfl; rfl; rfl; (repeat first | exact .head _ _ | apply Pick.tail); simp only [q0, q9, q1, q2, q3]) | ((with_reducible refine wpl ?_); apply ld_one (hM := hM) (hv := onec_64) (ht := one3); rfl; rfl; rfl; (repeat first | exact .head _ _ | apply Pick.tail); simp only [q0, q9, q1, q2, q3]) | ((with_reducible refine wpl ?_); apply st_cell (hM := hM) (i := 64) (ht := one3); rfl; rfl; rfl; (first | (focus (go_simp; done)) | (focus (go_simp; rfl))); (repeat first | exact .head _ _ | apply Pick.tail); (rw [onec_size]; decide); rfl; intro w1 hM1; clear hM; (rw [onec_hold] at hM1); have hM := hM1; clear hM1; simp only [q0, q9, q1, q2, q3]) | ((with_reducible refine wpl ?_); apply ld_one (hM := hM); rfl; rfl; rfl; (repeat first | exact .head _ _ | apply Pick.tail); rfl; (first | exact one3 | exact one22); simp only [q0, q9, q1, q2, q3]))
                   refine reg_begin (fun w' => Mem ⟨w, [(gm, .map es clk)]⟩ w' [] [⟨gx, onec ss.D (k * 64) (ss.H k), 58, (0, 0)⟩, ⟨gO, #[.int .i64 ok_, .int .i64 op_, .int .i64 oa_, .int .i64 on_, .int .i64 or_, .slice tb td.length tc], 55, (0, 0)⟩]) (by kernel_rfl) hM (fun wd hMd => ?_)
                   clear hM
                   have hM := hMd
                   clear hMd
                   have hS := (hM.swap.none.swap.sub (.cons (.head _ _) (.cons (.head _ _) (.nil _))))
                   refine rf 0 (.bool true) hS ?_
                   simp only [q0, q9, q1, q2, q3]
                   refine rf 1 (.bool true) hS ?_
                   simp only [q0, q9, q1, q2, q3]
                   refine rf 2 (.bool false) hS ?_
                   simp only [q0, q9, q1, q2, q3]
                   refine rf 3 (.bool false) hS ?_
                   simp only [q0, q9, q1, q2, q3]
                   refine rf 4 (.bool false) hS ?_
                   simp only [q0, q9, q1, q2, q3]
                   refine rk 5 hS ?_
                   simp only [q0, q9, q1, q2, q3]
                   refine rk 6 hS ?_
                   simp only [q0, q9, q1, q2, q3]
                   refine rk 7 hS ?_
                   simp only [q0, q9, q1, q2, q3]
                   refine rk 8 hS ?_
                   simp only [q0, q9, q1, q2, q3]
                   refine rk 9 hS ?_
                   simp only [q0, q9, q1, q2, q3]
                   refine rk 10 hS ?_
                   simp only [q0, q9, q1, q2, q3]
                   refine rk 11 hS ?_
                   simp only [q0, q9, q1, q2, q3]
                   refine rk 12 hS ?_
                   simp only [q0, q9, q1, q2, q3]
                   refine rk 13 hS ?_
                   simp only [q0, q9, q1, q2, q3]
                   refine rk 14 hS ?_
                   simp only [q0, q9, q1, q2, q3]
                   refine rk 15 hS ?_
                   simp only [q0, q9, q1, q2, q3]
                   refine rk 16 hS ?_
                   simp only [q0, q9, q1, q2, q3]
                   refine rk 17 hS ?_
                   simp only [q0, q9, q1, q2, q3]
                   refine rf 18 (.bool false) hS ?_
                   simp only [q0, q9, q1, q2, q3]
                   refine rf 19 (.bool false) hS ?_
                   simp only [q0, q9, q1, q2, q3]
                   refine rf 20 (.int .i64 1) hS ?_
                   simp only [q0, q9, q1, q2, q3]
                   refine rf 21 (.bool true) hS ?_
                   simp only [q0, q9, q1, q2, q3]
                   refine rf 22 (.bool true) hS ?_
                   simp only [q0, q9, q1, q2, q3]
                   refine rf 23 (.slice none 0 0) hS ?_
                   simp only [q0, q9, q1, q2, q3]
                   refine rf 24 (.int .i64 0) hS ?_
                   simp only [q0, q9, q1, q2, q3]
                   refine rf 25 (.bool false) hS ?_
                   simp only [q0, q9, q1, q2, q3]
                   refine rf 26 (.bool false) hS ?_
                   simp only [q0, q9, q1, q2, q3]
                   refine rf 27 (.bool false) hS ?_
                   simp only [q0, q9, q1, q2, q3]
                   refine reg_done (by kernel_rfl) ?_
                   clear hS
                   obtain ⟨tl, htl⟩ : ∃ tl : Nat, (ents ss T).length = tl := ⟨_, rfl⟩
                   have hall : Hid ((ss.m : Int) = (n0 : Int) - (tl : Int)) := hid_ (by have h1 := inv.all; have h2 := hn.out; rw [ents_len] at htl; omega)
                   have htlb : (tl : Int) ≤ (n0 : Int) := by have h1 := inv.all; have h2 := hn.out; rw [ents_len] at htl; omega
                   have hwr0 : IntKind.i64.wrap ((n0 : Int) - (tl : Int)) = (n0 : Int) - (tl : Int) := IntWalk.i64_in _ (by omega)
                   go_wp2_with ((with_reducible refine wpl ?_); (first | (apply ld_row (hM := hM) (ht := onec_row _ _ _); rfl; rfl; rfl; (repeat first | exact .head _ _ | apply Pick.tail)) | (apply ld_one (hM := hM) (hv := onec_64) (ht := one3); rfl; rfl; rfl; (repeat first | exact .head _ _ | apply Pick.tail)) | (apply st_cell (hM := hM) (i := 64) (ht := one3); rfl; rfl; rfl; (first | (focus (go_simp; done)) | (focus (go_simp; rfl))); (repeat first | exact .head _ _ | apply Pick.tail); (rw [onec_size]; decide); rfl; intro w1 hM1; clear hM; (rw [onec_hold] at hM1); have hM := hM1; clear hM1) | (apply ld_one (hM := hM); rfl; rfl; rfl; (repeat first | exact .head _ _ | apply Pick.tail); rfl; (first | exact one3 | exact one22))); simp only [q0, q9, q1, q2, q3])
                   refine (free hM ok2 ((n0 : Int) - (tl : Int)) hall.out).mono ?_
                   clear hM
                   rintro e w3 ⟨rfl, hM⟩
                   go_wp2_with ((with_reducible refine wpl ?_); (first | (apply mp_len (hM := hM) (hE := hE) (ht := und53); rfl; rfl; rfl) | (apply ld_row (hM := hM) (ht := onec_row _ _ _); rfl; rfl; rfl; (repeat first | exact .head _ _ | apply Pick.tail)) | (apply ld_one (hM := hM) (hv := onec_64) (ht := one3); rfl; rfl; rfl; (repeat first | exact .head _ _ | apply Pick.tail)) | (apply st_cell (hM := hM) (i := 64) (ht := one3); rfl; rfl; rfl; (first | (focus (go_simp; done)) | (focus (go_simp; rfl))); (repeat first | exact .head _ _ | apply Pick.tail); (rw [onec_size]; decide); rfl; intro w1 hM1; clear hM; (rw [onec_hold] at hM1); have hM := hM1; clear hM1) | (apply ld_one (hM := hM); rfl; rfl; rfl; (repeat first | exact .head _ _ | apply Pick.tail); rfl; (first | exact one3 | exact one22))); simp only [q0, q9, q1, q2, q3])
                   refine (len hM (n0 : Nat) (by rw [hn.out])).mono ?_
                   clear hM
                   rintro e w3 ⟨rfl, hM⟩
                   go_wp2_with ((with_reducible refine wpl ?_); (first | (apply ld_row (hM := hM) (ht := onec_row _ _ _); rfl; rfl; rfl; (repeat first | exact .head _ _ | apply Pick.tail)) | (apply ld_one (hM := hM) (hv := onec_64) (ht := one3); rfl; rfl; rfl; (repeat first | exact .head _ _ | apply Pick.tail)) | (apply st_cell (hM := hM) (i := 64) (ht := one3); rfl; rfl; rfl; (first | (focus (go_simp; done)) | (focus (go_simp; rfl))); (repeat first | exact .head _ _ | apply Pick.tail); (rw [onec_size]; decide); rfl; intro w1 hM1; clear hM; (rw [onec_hold] at hM1); have hM := hM1; clear hM1) | (apply ld_one (hM := hM); rfl; rfl; rfl; (repeat first | exact .head _ _ | apply Pick.tail); rfl; (first | exact one3 | exact one22))); simp only [q0, q9, q1, q2, q3])
                   go_roundg (gk - 1)
                   case measure => have := hgk.out; omega
                   case rel => exact ⟨j + 1, ss, T, es, clk, F, R8, hid_ (by have := hgk.out; omega), by go_num, ok2, (inv.le' (Nat.le_succ j)), hE, hT8, hid_ (by have := hF8.out; omega), hFi, hM.tail.tail⟩
           as_aux_lemma =>
            have s0 : (ok_ == 0) = false := beq_eq_false_iff_ne.2 k0
            have s1 : (ok_ == 1) = false := beq_eq_false_iff_ne.2 k1
            have s2 : (ok_ == 2) = false := beq_eq_false_iff_ne.2 k2
            have s3 : (ok_ == 3) = false := beq_eq_false_iff_ne.2 k3
            have s4 : (ok_ == 4) = false := beq_eq_false_iff_ne.2 k4
            clear k0
            clear k1
            clear k2
            clear k3
            clear k4
            obtain ⟨tl, htl⟩ : ∃ tl : Nat, (ents ss T).length = tl := ⟨_, rfl⟩
            have hall : Hid ((ss.m : Int) = (n0 : Int) - (tl : Int)) := hid_ (by have h1 := inv.all; have h2 := hn.out; rw [ents_len] at htl; omega)
            have htlb : (tl : Int) ≤ (n0 : Int) := by have h1 := inv.all; have h2 := hn.out; rw [ents_len] at htl; omega
            have hwr0 : IntKind.i64.wrap ((n0 : Int) - (tl : Int)) = (n0 : Int) - (tl : Int) := IntWalk.i64_in _ (by omega)
            go_wp2_with ((with_reducible refine wpl ?_); (first | (apply ld_row (hM := hM) (ht := onec_row _ _ _); rfl; rfl; rfl; (repeat first | exact .head _ _ | apply Pick.tail)) | (apply ld_one (hM := hM) (hv := onec_64) (ht := one3); rfl; rfl; rfl; (repeat first | exact .head _ _ | apply Pick.tail)) | (apply st_cell (hM := hM) (i := 64) (ht := one3); rfl; rfl; rfl; (first | (focus (go_simp; done)) | (focus (go_simp; rfl))); (repeat first | exact .head _ _ | apply Pick.tail); (rw [onec_size]; decide); rfl; intro w1 hM1; clear hM; (rw [onec_hold] at hM1); have hM := hM1; clear hM1) | (apply ld_one (hM := hM); rfl; rfl; rfl; (repeat first | exact .head _ _ | apply Pick.tail); rfl; (first | exact one3 | exact one22))); simp only [q0, q9, q1, q2, q3])
            refine (free hM ok2 ((n0 : Int) - (tl : Int)) hall.out).mono ?_
            clear hM
            rintro e w3 ⟨rfl, hM⟩
            go_wp2_with ((with_reducible refine wpl ?_); (first | (apply mp_len (hM := hM) (hE := hE) (ht := und53); rfl; rfl; rfl) | (apply ld_row (hM := hM) (ht := onec_row _ _ _); rfl; rfl; rfl; (repeat first | exact .head _ _ | apply Pick.tail)) | (apply ld_one (hM := hM) (hv := onec_64) (ht := one3); rfl; rfl; rfl; (repeat first | exact .head _ _ | apply Pick.tail)) | (apply st_cell (hM := hM) (i := 64) (ht := one3); rfl; rfl; rfl; (first | (focus (go_simp; done)) | (focus (go_simp; rfl))); (repeat first | exact .head _ _ | apply Pick.tail); (rw [onec_size]; decide); rfl; intro w1 hM1; clear hM; (rw [onec_hold] at hM1); have hM := hM1; clear hM1) | (apply ld_one (hM := hM); rfl; rfl; rfl; (repeat first | exact .head _ _ | apply Pick.tail); rfl; (first | exact one3 | exact one22))); simp only [q0, q9, q1, q2, q3])
            refine (len hM (n0 : Nat) (by rw [hn.out])).mono ?_
            clear hM
            rintro e w3 ⟨rfl, hM⟩
            go_wp2_with ((with_reducible refine wpl ?_); (first | (apply ld_row (hM := hM) (ht := onec_row _ _ _); rfl; rfl; rfl; (repeat first | exact .head _ _ | apply Pick.tail)) | (apply ld_one (hM := hM) (hv := onec_64) (ht := one3); rfl; rfl; rfl; (repeat first | exact .head _ _ | apply Pick.tail)) | (apply st_cell (hM := hM) (i := 64) (ht := one3); rfl; rfl; rfl; (first | (focus (go_simp; done)) | (focus (go_simp; rfl))); (repeat first | exact .head _ _ | apply Pick.tail); (rw [onec_size]; decide); rfl; intro w1 hM1; clear hM; (rw [onec_hold] at hM1); have hM := hM1; clear hM1) | (apply ld_one (hM := hM); rfl; rfl; rfl; (repeat first | exact .head _ _ | apply Pick.tail); rfl; (first | exact one3 | exact one22))); simp only [q0, q9, q1, q2, q3])
            go_roundg (gk - 1)
            case measure => have := hgk.out; omega
            case rel => exact ⟨j + 1, ss, T, es, clk, F, R8, hid_ (by have := hgk.out; omega), by go_num, ok2, (inv.le' (Nat.le_succ j)), hE, hT8, hid_ (by have := hF8.out; omega), hFi, hM.tail.tail⟩
    · have t1 : decide ((td.length : Int) > 200) = true := decide_eq_true (by omega)
      go_wp2_with ((with_reducible refine wpl ?_); (first | (apply ld_any [.int .i64 ok_, .int .i64 op_, .int .i64 oa_, .int .i64 on_, .int .i64 or_, .slice tb td.length tc]; rfl; rfl; rfl; exact (fun i u hu => came_cell hM (hrec.out i u hu)); exact row55) | (apply st_row (hM := hM) (h1 := onec_one _ _ _) (ht := onec_row _ _ _); rfl; rfl; rfl; (first | (focus (go_simp; done)) | (focus (go_simp; rfl))); (repeat first | exact .head _ _ | apply Pick.tail); exact (onec_size _ _ _).trans (onec_size _ _ _).symm; clear hM; intro w1 hM) | (apply ld_row (hM := hM) (ht := onec_row _ _ _); rfl; rfl; rfl; (repeat first | exact .head _ _ | apply Pick.tail)) | (apply ld_one (hM := hM) (hv := onec_64) (ht := one3); rfl; rfl; rfl; (repeat first | exact .head _ _ | apply Pick.tail)) | (apply st_cell (hM := hM) (i := 64) (ht := one3); rfl; rfl; rfl; (first | (focus (go_simp; done)) | (focus (go_simp; rfl))); (repeat first | exact .head _ _ | apply Pick.tail); (rw [onec_size]; decide); rfl; intro w1 hM1; clear hM; (rw [onec_hold] at hM1); have hM := hM1; clear hM1) | (apply al_box (hM := hM); rfl; rfl; (first | (focus (go_simp; done)) | (focus (go_simp; rfl))); clear hM; intro gb w1 hM; dsimp only [Value.cells] at hM) | (apply al_zero (hM := hM); rfl; rfl; (first | exact zero55 | exact zero58); clear hM; intro gz w1 hM; dsimp only [Value.cells] at hM) | (apply ld_row (hM := hM); rfl; rfl; rfl; (repeat first | exact .head _ _ | apply Pick.tail); (first | exact row55)) | (apply st_row (hM := hM); rfl; rfl; rfl; (first | (focus (go_simp; done)) | (focus (go_simp; rfl))); (repeat first | exact .head _ _ | apply Pick.tail); rfl; rfl; (first | exact row55); intro w1 hM1; clear hM; (try simp only [q1, q2, q3] at hM1); (try rw [tab_setInt] at hM1);  have hM := hM1; clear hM1) | (apply ld_one (hM := hM); rfl; rfl; rfl; (repeat first | exact .head _ _ | apply Pick.tail); rfl; (first | exact one3 | exact one39 | exact one22)) | (apply st_cell (hM := hM); rfl; rfl; rfl; (first | (focus (go_simp; done)) | (focus (go_simp; rfl))); (repeat first | exact .head _ _ | apply Pick.tail); simp; rfl; (first | exact one3 | exact one39 | exact one22); intro w1 hM1; clear hM; (try simp only [q1, q2, q3] at hM1); (try rw [tab_setInt] at hM1);  have hM := hM1; clear hM1)); simp only [q0, q9, q1, q2, q3])
      go_ret
      exact ⟨rfl, hM.below⟩
  · obtain rfl : j = ops.length := by have := hgk.out; omega
    as_aux_lemma =>
     go_wp2_with ((with_reducible refine wpl ?_); (first | (apply mp_range (hM := hM) (ht := und53); rfl; rfl; rfl; clear hM; intro gi w1 hne2 hSn hM) | (apply st_row (hM := hM) (h1 := onec_one _ _ _) (ht := onec_row _ _ _); rfl; rfl; rfl; (first | (focus (go_simp; done)) | (focus (go_simp; rfl))); (repeat first | exact .head _ _ | apply Pick.tail); exact (onec_size _ _ _).trans (onec_size _ _ _).symm; clear hM; intro w1 hM) | (apply ld_row (hM := hM) (ht := onec_row _ _ _); rfl; rfl; rfl; (repeat first | exact .head _ _ | apply Pick.tail)) | (apply ld_one (hM := hM) (hv := onec_64) (ht := one3); rfl; rfl; rfl; (repeat first | exact .head _ _ | apply Pick.tail)) | (apply st_cell (hM := hM) (i := 64) (ht := one3); rfl; rfl; rfl; (first | (focus (go_simp; done)) | (focus (go_simp; rfl))); (repeat first | exact .head _ _ | apply Pick.tail); (rw [onec_size]; decide); rfl; intro w1 hM1; clear hM; (rw [onec_hold] at hM1); have hM := hM1; clear hM1) | (apply al_box (hM := hM); rfl; rfl; (first | (focus (go_simp; done)) | (focus (go_simp; rfl))); clear hM; intro gb w1 hM; dsimp only [Value.cells] at hM) | (apply al_zero (hM := hM); rfl; rfl; (first | exact zero55 | exact zero58); clear hM; intro gz w1 hM; dsimp only [Value.cells] at hM) | (apply ld_row (hM := hM); rfl; rfl; rfl; (repeat first | exact .head _ _ | apply Pick.tail); (first | exact row55)) | (apply st_row (hM := hM); rfl; rfl; rfl; (first | (focus (go_simp; done)) | (focus (go_simp; rfl))); (repeat first | exact .head _ _ | apply Pick.tail); rfl; rfl; (first | exact row55); intro w1 hM1; clear hM; (try simp only [q1, q2, q3] at hM1); (try rw [tab_setInt] at hM1);  have hM := hM1; clear hM1) | (apply ld_one (hM := hM); rfl; rfl; rfl; (repeat first | exact .head _ _ | apply Pick.tail); rfl; (first | exact one3 | exact one39 | exact one22)) | (apply st_cell (hM := hM); rfl; rfl; rfl; (first | (focus (go_simp; done)) | (focus (go_simp; rfl))); (repeat first | exact .head _ _ | apply Pick.tail); simp; rfl; (first | exact one3 | exact one39 | exact one22); intro w1 hM1; clear hM; (try simp only [q1, q2, q3] at hM1); (try rw [tab_setInt] at hM1);  have hM := hM1; clear hM1)); simp only [q0, q9, q1, q2, q3])
     go_loopg [] (T.length) (fun gk wr => ∃ (V : List MapEntry) (seen : Array Nat), Hid (gk + V.length = T.length) ∧ Seen es seen V ∧ Mem ⟨w, (gi, .mapIter (some gm) clk seen clk) :: [(gm, .map es clk)]⟩ wr (arena p ss) R8)
     case atStart => exact ⟨[], #[], hid_ (by simp), hSn, hM⟩
     case round =>
      obtain ⟨V, seen, hq, hSn1, hMr⟩ := hrel
      clear hM hSn
      have hM := hMr
      have hSn := hSn1
      clear hMr hSn1
      by_cases hall : ∀ e ∈ es.toList, e ∈ V
      · as_aux_lemma =>
         go_wp2_with ((with_reducible refine wpl ?_); (first | (apply mp_over (hM := hM) (hne := hne2) (hE := hE) (hS := hSn) (hall := hall); rfl; rfl; rfl; clear hM; intro w1 hM) | (apply st_row (hM := hM) (h1 := onec_one _ _ _) (ht := onec_row _ _ _); rfl; rfl; rfl; (first | (focus (go_simp; done)) | (focus (go_simp; rfl))); (repeat first | exact .head _ _ | apply Pick.tail); exact (onec_size _ _ _).trans (onec_size _ _ _).symm; clear hM; intro w1 hM) | (apply ld_row (hM := hM) (ht := onec_row _ _ _); rfl; rfl; rfl; (repeat first | exact .head _ _ | apply Pick.tail)) | (apply ld_one (hM := hM) (hv := onec_64) (ht := one3); rfl; rfl; rfl; (repeat first | exact .head _ _ | apply Pick.tail)) | (apply st_cell (hM := hM) (i := 64) (ht := one3); rfl; rfl; rfl; (first | (focus (go_simp; done)) | (focus (go_simp; rfl))); (repeat first | exact .head _ _ | apply Pick.tail); (rw [onec_size]; decide); rfl; intro w1 hM1; clear hM; (rw [onec_hold] at hM1); have hM := hM1; clear hM1) | (apply al_box (hM := hM); rfl; rfl; (first | (focus (go_simp; done)) | (focus (go_simp; rfl))); clear hM; intro gb w1 hM; dsimp only [Value.cells] at hM) | (apply al_zero (hM := hM); rfl; rfl; (first | exact zero55 | exact zero58); clear hM; intro gz w1 hM; dsimp only [Value.cells] at hM) | (apply ld_row (hM := hM); rfl; rfl; rfl; (repeat first | exact .head _ _ | apply Pick.tail); (first | exact row55)) | (apply st_row (hM := hM); rfl; rfl; rfl; (first | (focus (go_simp; done)) | (focus (go_simp; rfl))); (repeat first | exact .head _ _ | apply Pick.tail); rfl; rfl; (first | exact row55); intro w1 hM1; clear hM; (try simp only [q1, q2, q3] at hM1); (try rw [tab_setInt] at hM1);  have hM := hM1; clear hM1) | (apply ld_one (hM := hM); rfl; rfl; rfl; (repeat first | exact .head _ _ | apply Pick.tail); rfl; (first | exact one3 | exact one39 | exact one22)) | (apply st_cell (hM := hM); rfl; rfl; rfl; (first | (focus (go_simp; done)) | (focus (go_simp; rfl))); (repeat first | exact .head _ _ | apply Pick.tail); simp; rfl; (first | exact one3 | exact one39 | exact one22); intro w1 hM1; clear hM; (try simp only [q1, q2, q3] at hM1); (try rw [tab_setInt] at hM1);  have hM := hM1; clear hM1)); simp only [q0, q9, q1, q2, q3])
         go_ret
         exact ⟨rfl, hM.below⟩
      · as_aux_lemma =>
         go_upto_region 68 with (first | ((with_reducible refine wpl ?_); apply mp_more (hM := hM) (hne := hne2) (hE := hE) (hS := hSn) (hall := hall); rfl; rfl; rfl; clear hM; intro w1 en kx vx hen hSn2 hM; simp only [q0, q9, q1, q2, q3]) | ((with_reducible refine wpl ?_); apply st_row (hM := hM) (h1 := onec_one _ _ _) (ht := onec_row _ _ _); rfl; rfl; rfl; (first | (focus (go_simp; done)) | (focus (go_simp; rfl))); (repeat first | exact .head _ _ | apply Pick.tail); exact (onec_size _ _ _).trans (onec_size _ _ _).symm; clear hM; intro w1 hM; simp only [q0, q9, q1, q2, q3]) | ((with_reducible refine wpl ?_); apply ld_row (hM := hM) (ht := onec_row _ _ _); rfl; rfl; rfl; (repeat first | exact .head _ _ | apply Pick.tail); simp only [q0, q9, q1, q2, q3]) | ((with_reducible refine wpl ?_); apply ld_one (hM := hM) (hv := onec_64) (ht := one3); rfl; rfl; rfl; (repeat first | exact .head _ _ | apply Pick.tail); simp only [q0, q9, q1, q2, q3]) | ((with_reducible refine wpl ?_); apply st_cell (hM := hM) (i := 64) (ht := one3); rfl; rfl; rfl; (first | (focus (go_simp; done)) | (focus (go_simp; rfl))); (repeat first | exact .head _ _ | apply Pick.tail); (rw [onec_size]; decide); rfl; intro w1 hM1; clear hM; (rw [onec_hold] at hM1); have hM := hM1; clear hM1; simp only [q0, q9, q1, q2, q3]) | ((with_reducible refine wpl ?_); apply al_box (hM := hM); rfl; rfl; (first | (focus (go_simp; done)) | (focus (go_simp; rfl))); clear hM; intro gb w1 hM; dsimp only [Value.cells] at hM; simp only [q0, q9, q1, q2, q3]) | ((with_reducible refine wpl ?_); apply al_zero (hM := hM); rfl; rfl; (first | exact zero55 | exact zero58); clear hM; intro gz w1 hM; dsimp only [Value.cells] at hM; simp only [q0, q9, q1, q2, q3]) | ((with_reducible refine wpl ?_); apply ld_row (hM := hM); rfl; rfl; rfl; (repeat first | exact .head _ _ | apply Pick.tail); (first | exact row55); simp only [q0, q9, q1, q2, q3]) | ((with_reducible refine wpl ?_); apply st_row (hM := hM); rfl; rfl; rfl; (first | (focus (go_simp; done)) | (focus (go_simp; rfl))); (repeat first | exact .head _ _ | apply Pick.tail); rfl; rfl; (first | exact row55); intro w1 hM1; clear hM; (try simp only [q1, q2, q3] at hM1); (try rw [tab_setInt] at hM1);  have hM := hM1; clear hM1; simp only [q0, q9, q1, q2, q3]) | ((with_reducible refine wpl ?_); apply ld_one (hM := hM); rfl; rfl; rfl; (repeat first | exact .head _ _ | apply Pick.tail); rfl; (first | exact one3 | exact one39 | exact one22); simp only [q0, q9, q1, q2, q3]) | ((with_reducible refine wpl ?_); apply st_cell (hM := hM); rfl; rfl; rfl; (first | (focus (go_simp; done)) | (focus (go_simp; rfl))); (repeat first | exact .head _ _ | apply Pick.tail); simp; rfl; (first | exact one3 | exact one39 | exact one22); intro w1 hM1; clear hM; (try simp only [q1, q2, q3] at hM1); (try rw [tab_setInt] at hM1);  have hM := hM1; clear hM1; simp only [q0, q9, q1, q2, q3]))
         obtain ⟨k, hkT, hpk⟩ := ents_out hen.out.2.2.2.2
         simp only [Prod.mk.injEq] at hpk
         obtain ⟨rfl, rfl⟩ := hpk
         have hkn := ((inv.mem k).1 hkT).1
         have hkp := ((inv.mem k).1 hkT).2
         go_wp2_with ((with_reducible refine wpl ?_); (first | (apply mp_entry' (hM := hM) (hE := hE) (he := hen); rfl; rfl; rfl) | (apply st_row (hM := hM) (h1 := onec_one _ _ _) (ht := onec_row _ _ _); rfl; rfl; rfl; (first | (focus (go_simp; done)) | (focus (go_simp; rfl))); (repeat first | exact .head _ _ | apply Pick.tail); exact (onec_size _ _ _).trans (onec_size _ _ _).symm; clear hM; intro w1 hM) | (apply ld_row (hM := hM) (ht := onec_row _ _ _); rfl; rfl; rfl; (repeat first | exact .head _ _ | apply Pick.tail)) | (apply ld_one (hM := hM) (hv := onec_64) (ht := one3); rfl; rfl; rfl; (repeat first | exact .head _ _ | apply Pick.tail)) | (apply st_cell (hM := hM) (i := 64) (ht := one3); rfl; rfl; rfl; (first | (focus (go_simp; done)) | (focus (go_simp; rfl))); (repeat first | exact .head _ _ | apply Pick.tail); (rw [onec_size]; decide); rfl; intro w1 hM1; clear hM; (rw [onec_hold] at hM1); have hM := hM1; clear hM1) | (apply al_box (hM := hM); rfl; rfl; (first | (focus (go_simp; done)) | (focus (go_simp; rfl))); clear hM; intro gb w1 hM; dsimp only [Value.cells] at hM) | (apply al_zero (hM := hM); rfl; rfl; (first | exact zero55 | exact zero58); clear hM; intro gz w1 hM; dsimp only [Value.cells] at hM) | (apply ld_row (hM := hM); rfl; rfl; rfl; (repeat first | exact .head _ _ | apply Pick.tail); (first | exact row55)) | (apply st_row (hM := hM); rfl; rfl; rfl; (first | (focus (go_simp; done)) | (focus (go_simp; rfl))); (repeat first | exact .head _ _ | apply Pick.tail); rfl; rfl; (first | exact row55); intro w1 hM1; clear hM; (try simp only [q1, q2, q3] at hM1); (try rw [tab_setInt] at hM1);  have hM := hM1; clear hM1) | (apply ld_one (hM := hM); rfl; rfl; rfl; (repeat first | exact .head _ _ | apply Pick.tail); rfl; (first | exact one3 | exact one39 | exact one22)) | (apply st_cell (hM := hM); rfl; rfl; rfl; (first | (focus (go_simp; done)) | (focus (go_simp; rfl))); (repeat first | exact .head _ _ | apply Pick.tail); simp; rfl; (first | exact one3 | exact one39 | exact one22); intro w1 hM1; clear hM; (try simp only [q1, q2, q3] at hM1); (try rw [tab_setInt] at hM1);  have hM := hM1; clear hM1)); simp only [q0, q9, q1, q2, q3])
         obtain ⟨gx, rfl⟩ : ∃ g : Nat, g = gz := ⟨_, rfl⟩
         refine (read hM ok2 k hkn hkp 0 64 rfl rfl (by omega) (by omega)).mono ?_
         clear hM
         rintro e w3 ⟨g5, c5, cs5, rfl, hM, hs5, hc5, hg5⟩
         replace hg5 := hid_ hg5
         clear hs5
         go_upto_region 70 with (first | ((with_reducible refine wpl ?_); apply st_row (hM := hM) (h1 := onec_one _ _ _) (ht := onec_row _ _ _); rfl; rfl; rfl; (first | (focus (go_simp; done)) | (focus (go_simp; rfl))); (repeat first | exact .head _ _ | apply Pick.tail); exact (onec_size _ _ _).trans (onec_size _ _ _).symm; clear hM; intro w1 hM; simp only [q0, q9, q1, q2, q3]) | ((with_reducible refine wpl ?_); apply ld_row (hM := hM) (ht := onec_row _ _ _); rfl; rfl; rfl; (repeat first | exact .head _ _ | apply Pick.tail); simp only [q0, q9, q1, q2, q3]) | ((with_reducible refine wpl ?_); apply ld_one (hM := hM) (hv := onec_64) (ht := one3); rfl; rfl; rfl; (repeat first | exact .head _ _ | apply Pick.tail); simp only [q0, q9, q1, q2, q3]) | ((with_reducible refine wpl ?_); apply st_cell (hM := hM) (i := 64) (ht := one3); rfl; rfl; rfl; (first | (focus (go_simp; done)) | (focus (go_simp; rfl))); (repeat first | exact .head _ _ | apply Pick.tail); (rw [onec_size]; decide); rfl; intro w1 hM1; clear hM; (rw [onec_hold] at hM1); have hM := hM1; clear hM1; simp only [q0, q9, q1, q2, q3]) | ((with_reducible refine wpl ?_); apply al_box (hM := hM); rfl; rfl; (first | (focus (go_simp; done)) | (focus (go_simp; rfl))); clear hM; intro gb w1 hM; dsimp only [Value.cells] at hM; simp only [q0, q9, q1, q2, q3]) | ((with_reducible refine wpl ?_); apply al_zero (hM := hM); rfl; rfl; (first | exact zero55 | exact zero58); clear hM; intro gz w1 hM; dsimp only [Value.cells] at hM; simp only [q0, q9, q1, q2, q3]) | ((with_reducible refine wpl ?_); apply ld_row (hM := hM); rfl; rfl; rfl; (repeat first | exact .head _ _ | apply Pick.tail); (first | exact row55); simp only [q0, q9, q1, q2, q3]) | ((with_reducible refine wpl ?_); apply st_row (hM := hM); rfl; rfl; rfl; (first | (focus (go_simp; done)) | (focus (go_simp; rfl))); (repeat first | exact .head _ _ | apply Pick.tail); rfl; rfl; (first | exact row55); intro w1 hM1; clear hM; (try simp only [q1, q2, q3] at hM1); (try rw [tab_setInt] at hM1);  have hM := hM1; clear hM1; simp only [q0, q9, q1, q2, q3]) | ((with_reducible refine wpl ?_); apply ld_one (hM := hM); rfl; rfl; rfl; (repeat first | exact .head _ _ | apply Pick.tail); rfl; (first | exact one3 | exact one39 | exact one22); simp only [q0, q9, q1, q2, q3]) | ((with_reducible refine wpl ?_); apply st_cell (hM := hM); rfl; rfl; rfl; (first | (focus (go_simp; done)) | (focus (go_simp; rfl))); (repeat first | exact .head _ _ | apply Pick.tail); simp; rfl; (first | exact one3 | exact one39 | exact one22); intro w1 hM1; clear hM; (try simp only [q1, q2, q3] at hM1); (try rw [tab_setInt] at hM1);  have hM := hM1; clear hM1; simp only [q0, q9, q1, q2, q3]))
         refine reg_begin (fun w' => Mem ⟨w, (gi, .mapIter (some gm) clk (seen.push en.born) clk) :: [(gm, .map es clk)]⟩ w' [] [⟨g5, cs5, 5, (0, 0)⟩, ⟨gx, onec ss.D (k * 64) (ss.H k), 58, (0, 0)⟩]) (by kernel_rfl) hM (fun wd hMd => ?_)
         clear hM
         have hM := hMd
         clear hMd
         have hS := (hM.swap.none.swap.sub (.cons (.head _ _) (.cons (.head _ _) (.nil _))))
         refine rf 0 (.int .i64 0) hS ?_
         simp only [q0, q9, q1, q2, q3]
         refine rf 1 (.bool false) hS ?_
         simp only [q0, q9, q1, q2, q3]
         refine rf 2 (.bool false) hS ?_
         simp only [q0, q9, q1, q2, q3]
         refine rf 3 (.slice (some ⟨g5, 0, none⟩) 64 c5) hS ?_
         simp only [q0, q9, q1, q2, q3]
         refine rg_cv 4 (bs := seg ss.D (k * 64 + 0) 64) rfl (by kernel_rfl) (by kernel_rfl) (by kernel_rfl) (fun _ _ _ h => h) (by rfl) rfl und22 und5 und9 (fun w' h' => read_seg (.head _ _) hc5 hg5.out h') hS ?_
         simp only [q0, q9, q1, q2, q3]
         refine rf 5 (.pointer (some ⟨gx, 0, none⟩)) hS ?_
         simp only [q0, q9, q1, q2, q3]
         refine rv 6 (.slice (some ⟨gx, 0, none⟩) 64 64) hS (fun w => run_arr_all w rfl rfl) ?_
         simp only [q0, q9, q1, q2, q3]
         refine rg_cv 7 (bs := seg ss.D (k * 64 + 0) 64) rfl (by kernel_rfl) (by kernel_rfl) (by kernel_rfl) (fun _ _ _ h => h) (by rfl) rfl und22 und5 und9 (fun w' h' => onec_bytes0 (.tail (.head _ _)) h') hS ?_
         simp only [q0, q9, q1, q2, q3]
         refine rf 8 (.bool false) hS ?_
         simp only [q0, q9, q1, q2, q3]
         refine rf 9 (.bool false) hS ?_
         simp only [q0, q9, q1, q2, q3]
         refine rf 10 (.bool false) hS ?_
         simp only [q0, q9, q1, q2, q3]
         refine rf 11 (own p) hS ?_
         simp only [q0, q9, q1, q2, q3]
         refine rf 12 (.int .i64 (k : Nat)) hS ?_
         simp only [q0, q9, q1, q2, q3]
         refine rf 14 (.pointer (some ⟨gx, 64, none⟩)) hS ?_
         simp only [q0, q9, q1, q2, q3]
         refine rg_one 15 (v := .int .i64 (ss.H k)) rfl (by kernel_rfl) (by kernel_rfl) (by kernel_rfl) (fun _ _ _ h => h) (by rfl) rfl rfl (fun w' h' => (h'.cell (.tail (.head _ _)) 64).trans onec_64) one3 hS ?_
         simp only [q0, q9, q1, q2, q3]
         refine reg_step 13 (by kernel_rfl) rfl ?_
         refine call_fn rfl (by rfl) cf21 (holds hM ok2 k hkn (ss.H k) rfl) (by simp only [List.map_toArray, List.map_cons, List.map_nil]; rfl) ?_
         clear hM
         rintro e w7 ⟨rfl, hM⟩
         refine ⟨_, rfl, ?_⟩
         clear hS
         have hS := (hM.swap.none.swap.sub (.cons (.head _ _) (.cons (.head _ _) (.nil _))))
         refine ⟨hS, ?_⟩
         simp only [q0, q9, q1, q2, q3]
         refine rf 16 (.bool false) hS ?_
         simp only [q0, q9, q1, q2, q3]
         refine rf 17 (.bool false) hS ?_
         simp only [q0, q9, q1, q2, q3]
         refine reg_done (by kernel_rfl) ?_
         clear hS
         go_wp2_with ((with_reducible refine wpl ?_); (first | (apply st_row (hM := hM) (h1 := onec_one _ _ _) (ht := onec_row _ _ _); rfl; rfl; rfl; (first | (focus (go_simp; done)) | (focus (go_simp; rfl))); (repeat first | exact .head _ _ | apply Pick.tail); exact (onec_size _ _ _).trans (onec_size _ _ _).symm; clear hM; intro w1 hM) | (apply ld_row (hM := hM) (ht := onec_row _ _ _); rfl; rfl; rfl; (repeat first | exact .head _ _ | apply Pick.tail)) | (apply ld_one (hM := hM) (hv := onec_64) (ht := one3); rfl; rfl; rfl; (repeat first | exact .head _ _ | apply Pick.tail)) | (apply st_cell (hM := hM) (i := 64) (ht := one3); rfl; rfl; rfl; (first | (focus (go_simp; done)) | (focus (go_simp; rfl))); (repeat first | exact .head _ _ | apply Pick.tail); (rw [onec_size]; decide); rfl; intro w1 hM1; clear hM; (rw [onec_hold] at hM1); have hM := hM1; clear hM1) | (apply al_box (hM := hM); rfl; rfl; (first | (focus (go_simp; done)) | (focus (go_simp; rfl))); clear hM; intro gb w1 hM; dsimp only [Value.cells] at hM) | (apply al_zero (hM := hM); rfl; rfl; (first | exact zero55 | exact zero58); clear hM; intro gz w1 hM; dsimp only [Value.cells] at hM) | (apply ld_row (hM := hM); rfl; rfl; rfl; (repeat first | exact .head _ _ | apply Pick.tail); (first | exact row55)) | (apply st_row (hM := hM); rfl; rfl; rfl; (first | (focus (go_simp; done)) | (focus (go_simp; rfl))); (repeat first | exact .head _ _ | apply Pick.tail); rfl; rfl; (first | exact row55); intro w1 hM1; clear hM; (try simp only [q1, q2, q3] at hM1); (try rw [tab_setInt] at hM1);  have hM := hM1; clear hM1) | (apply ld_one (hM := hM); rfl; rfl; rfl; (repeat first | exact .head _ _ | apply Pick.tail); rfl; (first | exact one3 | exact one39 | exact one22)) | (apply st_cell (hM := hM); rfl; rfl; rfl; (first | (focus (go_simp; done)) | (focus (go_simp; rfl))); (repeat first | exact .head _ _ | apply Pick.tail); simp; rfl; (first | exact one3 | exact one39 | exact one22); intro w1 hM1; clear hM; (try simp only [q1, q2, q3] at hM1); (try rw [tab_setInt] at hM1);  have hM := hM1; clear hM1)); simp only [q0, q9, q1, q2, q3])
         have hle := hSn2.le
         have hel := hE.len
         rw [List.length_append, List.length_singleton] at hle
         rw [ents_len] at hel
         have hq' := hq.out
         go_roundg (gk - 1)
         case measure => omega
         case rel => exact ⟨V ++ [en], seen.push en.born, hid_ (by rw [List.length_append, List.length_singleton]; omega), hSn2, hM.tail.tail⟩
set_option maxRecDepth 100000 in
set_option maxHeartbeats 4000000 in
theorem bp_a (w : World) (n0 : Int) (b : Option Addr) (n c : Nat) (h : n0 < 0) : Calls Try.prog 7 #[.int .i64 n0, .slice b n c] w fun e w' => e = .returned (.bool true) ∧ Below w.heap.size w w' := by
 have hM := Mem.start w
 have d0 : decide (n0 < 0) = true := decide_eq_true (by omega)
 go_enter Try.func7, Try.ntmps7
 go_wp2_with (first | (go_at_call 14; (with_reducible refine (holds_mem _).mono ?_); rintro e w3 ⟨rfl, hb⟩; replace hM := hM.step hb; clear hb) | ((with_reducible refine wpl ?_); (first | (apply st_row (hM := hM) (h1 := onec_one _ _ _) (ht := onec_row _ _ _); rfl; rfl; rfl; (first | (focus (go_simp; done)) | (focus (go_simp; rfl))); (repeat first | exact .head _ _ | apply Pick.tail); exact (onec_size _ _ _).trans (onec_size _ _ _).symm; clear hM; intro w1 hM) | (apply ld_row (hM := hM) (ht := onec_row _ _ _); rfl; rfl; rfl; (repeat first | exact .head _ _ | apply Pick.tail)) | (apply ld_one (hM := hM) (hv := onec_64) (ht := one3); rfl; rfl; rfl; (repeat first | exact .head _ _ | apply Pick.tail)) | (apply st_cell (hM := hM) (i := 64) (ht := one3); rfl; rfl; rfl; (first | (focus (go_simp; done)) | (focus (go_simp; rfl))); (repeat first | exact .head _ _ | apply Pick.tail); (rw [onec_size]; decide); rfl; intro w1 hM1; clear hM; (rw [onec_hold] at hM1); have hM := hM1; clear hM1) | (apply al_box (hM := hM); rfl; rfl; (first | (focus (go_simp; done)) | (focus (go_simp; rfl))); clear hM; intro gb w1 hM; dsimp only [Value.cells] at hM) | (apply al_zero (hM := hM); rfl; rfl; (first | exact zero55 | exact zero58); clear hM; intro gz w1 hM; dsimp only [Value.cells] at hM) | (apply ld_row (hM := hM); rfl; rfl; rfl; (repeat first | exact .head _ _ | apply Pick.tail); (first | exact row55)) | (apply st_row (hM := hM); rfl; rfl; rfl; (first | (focus (go_simp; done)) | (focus (go_simp; rfl))); (repeat first | exact .head _ _ | apply Pick.tail); rfl; rfl; (first | exact row55); intro w1 hM1; clear hM; (try simp only [q1, q2, q3] at hM1); (try rw [tab_setInt] at hM1);  have hM := hM1; clear hM1) | (apply ld_one (hM := hM); rfl; rfl; rfl; (repeat first | exact .head _ _ | apply Pick.tail); rfl; (first | exact one3 | exact one39 | exact one22)) | (apply st_cell (hM := hM); rfl; rfl; rfl; (first | (focus (go_simp; done)) | (focus (go_simp; rfl))); (repeat first | exact .head _ _ | apply Pick.tail); simp; rfl; (first | exact one3 | exact one39 | exact one22); intro w1 hM1; clear hM; (try simp only [q1, q2, q3] at hM1); (try rw [tab_setInt] at hM1);  have hM := hM1; clear hM1)); simp only [q0, q9, q1, q2, q3]))
 refine (new_bad hM n0 (by omega)).mono ?_
 clear hM
 rintro e w3 ⟨rfl, hM⟩
 go_wp2_with ((with_reducible refine wpl ?_); (first | (apply st_row (hM := hM) (h1 := onec_one _ _ _) (ht := onec_row _ _ _); rfl; rfl; rfl; (first | (focus (go_simp; done)) | (focus (go_simp; rfl))); (repeat first | exact .head _ _ | apply Pick.tail); exact (onec_size _ _ _).trans (onec_size _ _ _).symm; clear hM; intro w1 hM) | (apply ld_row (hM := hM) (ht := onec_row _ _ _); rfl; rfl; rfl; (repeat first | exact .head _ _ | apply Pick.tail)) | (apply ld_one (hM := hM) (hv := onec_64) (ht := one3); rfl; rfl; rfl; (repeat first | exact .head _ _ | apply Pick.tail)) | (apply st_cell (hM := hM) (i := 64) (ht := one3); rfl; rfl; rfl; (first | (focus (go_simp; done)) | (focus (go_simp; rfl))); (repeat first | exact .head _ _ | apply Pick.tail); (rw [onec_size]; decide); rfl; intro w1 hM1; clear hM; (rw [onec_hold] at hM1); have hM := hM1; clear hM1) | (apply al_box (hM := hM); rfl; rfl; (first | (focus (go_simp; done)) | (focus (go_simp; rfl))); clear hM; intro gb w1 hM; dsimp only [Value.cells] at hM) | (apply al_zero (hM := hM); rfl; rfl; (first | exact zero55 | exact zero58); clear hM; intro gz w1 hM; dsimp only [Value.cells] at hM) | (apply ld_row (hM := hM); rfl; rfl; rfl; (repeat first | exact .head _ _ | apply Pick.tail); (first | exact row55)) | (apply st_row (hM := hM); rfl; rfl; rfl; (first | (focus (go_simp; done)) | (focus (go_simp; rfl))); (repeat first | exact .head _ _ | apply Pick.tail); rfl; rfl; (first | exact row55); intro w1 hM1; clear hM; (try simp only [q1, q2, q3] at hM1); (try rw [tab_setInt] at hM1);  have hM := hM1; clear hM1) | (apply ld_one (hM := hM); rfl; rfl; rfl; (repeat first | exact .head _ _ | apply Pick.tail); rfl; (first | exact one3 | exact one39 | exact one22)) | (apply st_cell (hM := hM); rfl; rfl; rfl; (first | (focus (go_simp; done)) | (focus (go_simp; rfl))); (repeat first | exact .head _ _ | apply Pick.tail); simp; rfl; (first | exact one3 | exact one39 | exact one22); intro w1 hM1; clear hM; (try simp only [q1, q2, q3] at hM1); (try rw [tab_setInt] at hM1);  have hM := hM1; clear hM1)); simp only [q0, q9, q1, q2, q3])
 go_ret
 exact ⟨rfl, hM.below⟩

set_option maxRecDepth 100000 in
set_option maxHeartbeats 4000000 in
theorem bp_b (w : World) (n0 : Int) (b : Option Addr) (n c : Nat) (h : 0 ≤ n0) (h2 : 16384 < n0) : Calls Try.prog 7 #[.int .i64 n0, .slice b n c] w fun e w' => e = .returned (.bool true) ∧ Below w.heap.size w w' := by
 have hM := Mem.start w
 have d0 : decide (n0 < 0) = false := decide_eq_false (by omega)
 have d1 : decide (n0 > 16384) = true := decide_eq_true (by omega)
 go_enter Try.func7, Try.ntmps7
 go_wp2_with (first | (go_at_call 14; (with_reducible refine (holds_mem _).mono ?_); rintro e w3 ⟨rfl, hb⟩; replace hM := hM.step hb; clear hb) | ((with_reducible refine wpl ?_); (first | (apply st_row (hM := hM) (h1 := onec_one _ _ _) (ht := onec_row _ _ _); rfl; rfl; rfl; (first | (focus (go_simp; done)) | (focus (go_simp; rfl))); (repeat first | exact .head _ _ | apply Pick.tail); exact (onec_size _ _ _).trans (onec_size _ _ _).symm; clear hM; intro w1 hM) | (apply ld_row (hM := hM) (ht := onec_row _ _ _); rfl; rfl; rfl; (repeat first | exact .head _ _ | apply Pick.tail)) | (apply ld_one (hM := hM) (hv := onec_64) (ht := one3); rfl; rfl; rfl; (repeat first | exact .head _ _ | apply Pick.tail)) | (apply st_cell (hM := hM) (i := 64) (ht := one3); rfl; rfl; rfl; (first | (focus (go_simp; done)) | (focus (go_simp; rfl))); (repeat first | exact .head _ _ | apply Pick.tail); (rw [onec_size]; decide); rfl; intro w1 hM1; clear hM; (rw [onec_hold] at hM1); have hM := hM1; clear hM1) | (apply al_box (hM := hM); rfl; rfl; (first | (focus (go_simp; done)) | (focus (go_simp; rfl))); clear hM; intro gb w1 hM; dsimp only [Value.cells] at hM) | (apply al_zero (hM := hM); rfl; rfl; (first | exact zero55 | exact zero58); clear hM; intro gz w1 hM; dsimp only [Value.cells] at hM) | (apply ld_row (hM := hM); rfl; rfl; rfl; (repeat first | exact .head _ _ | apply Pick.tail); (first | exact row55)) | (apply st_row (hM := hM); rfl; rfl; rfl; (first | (focus (go_simp; done)) | (focus (go_simp; rfl))); (repeat first | exact .head _ _ | apply Pick.tail); rfl; rfl; (first | exact row55); intro w1 hM1; clear hM; (try simp only [q1, q2, q3] at hM1); (try rw [tab_setInt] at hM1);  have hM := hM1; clear hM1) | (apply ld_one (hM := hM); rfl; rfl; rfl; (repeat first | exact .head _ _ | apply Pick.tail); rfl; (first | exact one3 | exact one39 | exact one22)) | (apply st_cell (hM := hM); rfl; rfl; rfl; (first | (focus (go_simp; done)) | (focus (go_simp; rfl))); (repeat first | exact .head _ _ | apply Pick.tail); simp; rfl; (first | exact one3 | exact one39 | exact one22); intro w1 hM1; clear hM; (try simp only [q1, q2, q3] at hM1); (try rw [tab_setInt] at hM1);  have hM := hM1; clear hM1)); simp only [q0, q9, q1, q2, q3]))
 refine (new_bad hM n0 (by omega)).mono ?_
 clear hM
 rintro e w3 ⟨rfl, hM⟩
 go_wp2_with ((with_reducible refine wpl ?_); (first | (apply st_row (hM := hM) (h1 := onec_one _ _ _) (ht := onec_row _ _ _); rfl; rfl; rfl; (first | (focus (go_simp; done)) | (focus (go_simp; rfl))); (repeat first | exact .head _ _ | apply Pick.tail); exact (onec_size _ _ _).trans (onec_size _ _ _).symm; clear hM; intro w1 hM) | (apply ld_row (hM := hM) (ht := onec_row _ _ _); rfl; rfl; rfl; (repeat first | exact .head _ _ | apply Pick.tail)) | (apply ld_one (hM := hM) (hv := onec_64) (ht := one3); rfl; rfl; rfl; (repeat first | exact .head _ _ | apply Pick.tail)) | (apply st_cell (hM := hM) (i := 64) (ht := one3); rfl; rfl; rfl; (first | (focus (go_simp; done)) | (focus (go_simp; rfl))); (repeat first | exact .head _ _ | apply Pick.tail); (rw [onec_size]; decide); rfl; intro w1 hM1; clear hM; (rw [onec_hold] at hM1); have hM := hM1; clear hM1) | (apply al_box (hM := hM); rfl; rfl; (first | (focus (go_simp; done)) | (focus (go_simp; rfl))); clear hM; intro gb w1 hM; dsimp only [Value.cells] at hM) | (apply al_zero (hM := hM); rfl; rfl; (first | exact zero55 | exact zero58); clear hM; intro gz w1 hM; dsimp only [Value.cells] at hM) | (apply ld_row (hM := hM); rfl; rfl; rfl; (repeat first | exact .head _ _ | apply Pick.tail); (first | exact row55)) | (apply st_row (hM := hM); rfl; rfl; rfl; (first | (focus (go_simp; done)) | (focus (go_simp; rfl))); (repeat first | exact .head _ _ | apply Pick.tail); rfl; rfl; (first | exact row55); intro w1 hM1; clear hM; (try simp only [q1, q2, q3] at hM1); (try rw [tab_setInt] at hM1);  have hM := hM1; clear hM1) | (apply ld_one (hM := hM); rfl; rfl; rfl; (repeat first | exact .head _ _ | apply Pick.tail); rfl; (first | exact one3 | exact one39 | exact one22)) | (apply st_cell (hM := hM); rfl; rfl; rfl; (first | (focus (go_simp; done)) | (focus (go_simp; rfl))); (repeat first | exact .head _ _ | apply Pick.tail); simp; rfl; (first | exact one3 | exact one39 | exact one22); intro w1 hM1; clear hM; (try simp only [q1, q2, q3] at hM1); (try rw [tab_setInt] at hM1);  have hM := hM1; clear hM1)); simp only [q0, q9, q1, q2, q3])
 go_ret
 exact ⟨rfl, hM.below⟩

set_option maxRecDepth 100000 in
set_option maxHeartbeats 4000000 in
theorem bp_c (w : World) (n0 : Nat) (b : Option Addr) (n c : Nat) (h2 : n0 ≤ 16384) (h3 : 100 < n) : Calls Try.prog 7 #[.int .i64 n0, .slice b n c] w fun e w' => e = .returned (.bool true) ∧ Below w.heap.size w w' := by
 have hM := Mem.start w
 have d0 : decide ((n0 : Int) < 0) = false := decide_eq_false (by omega)
 have d1 : decide ((n0 : Int) > 16384) = false := decide_eq_false (by omega)
 have d2 : decide ((n : Int) > 100) = true := decide_eq_true (by omega)
 go_enter Try.func7, Try.ntmps7
 go_wp2_with (first | (go_at_call 14; (with_reducible refine (holds_mem _).mono ?_); rintro e w3 ⟨rfl, hb⟩; replace hM := hM.step hb; clear hb) | ((with_reducible refine wpl ?_); (first | (apply st_row (hM := hM) (h1 := onec_one _ _ _) (ht := onec_row _ _ _); rfl; rfl; rfl; (first | (focus (go_simp; done)) | (focus (go_simp; rfl))); (repeat first | exact .head _ _ | apply Pick.tail); exact (onec_size _ _ _).trans (onec_size _ _ _).symm; clear hM; intro w1 hM) | (apply ld_row (hM := hM) (ht := onec_row _ _ _); rfl; rfl; rfl; (repeat first | exact .head _ _ | apply Pick.tail)) | (apply ld_one (hM := hM) (hv := onec_64) (ht := one3); rfl; rfl; rfl; (repeat first | exact .head _ _ | apply Pick.tail)) | (apply st_cell (hM := hM) (i := 64) (ht := one3); rfl; rfl; rfl; (first | (focus (go_simp; done)) | (focus (go_simp; rfl))); (repeat first | exact .head _ _ | apply Pick.tail); (rw [onec_size]; decide); rfl; intro w1 hM1; clear hM; (rw [onec_hold] at hM1); have hM := hM1; clear hM1) | (apply al_box (hM := hM); rfl; rfl; (first | (focus (go_simp; done)) | (focus (go_simp; rfl))); clear hM; intro gb w1 hM; dsimp only [Value.cells] at hM) | (apply al_zero (hM := hM); rfl; rfl; (first | exact zero55 | exact zero58); clear hM; intro gz w1 hM; dsimp only [Value.cells] at hM) | (apply ld_row (hM := hM); rfl; rfl; rfl; (repeat first | exact .head _ _ | apply Pick.tail); (first | exact row55)) | (apply st_row (hM := hM); rfl; rfl; rfl; (first | (focus (go_simp; done)) | (focus (go_simp; rfl))); (repeat first | exact .head _ _ | apply Pick.tail); rfl; rfl; (first | exact row55); intro w1 hM1; clear hM; (try simp only [q1, q2, q3] at hM1); (try rw [tab_setInt] at hM1);  have hM := hM1; clear hM1) | (apply ld_one (hM := hM); rfl; rfl; rfl; (repeat first | exact .head _ _ | apply Pick.tail); rfl; (first | exact one3 | exact one39 | exact one22)) | (apply st_cell (hM := hM); rfl; rfl; rfl; (first | (focus (go_simp; done)) | (focus (go_simp; rfl))); (repeat first | exact .head _ _ | apply Pick.tail); simp; rfl; (first | exact one3 | exact one39 | exact one22); intro w1 hM1; clear hM; (try simp only [q1, q2, q3] at hM1); (try rw [tab_setInt] at hM1);  have hM := hM1; clear hM1)); simp only [q0, q9, q1, q2, q3]))
 refine (new hM n0 (by omega) rfl).mono ?_
 clear hM
 rintro e w3 ⟨p, s, rfl, hn, ok, hm, hH, hM⟩
 clear hn hm hH
 go_wp2_with ((with_reducible refine wpl ?_); (first | (apply st_row (hM := hM) (h1 := onec_one _ _ _) (ht := onec_row _ _ _); rfl; rfl; rfl; (first | (focus (go_simp; done)) | (focus (go_simp; rfl))); (repeat first | exact .head _ _ | apply Pick.tail); exact (onec_size _ _ _).trans (onec_size _ _ _).symm; clear hM; intro w1 hM) | (apply ld_row (hM := hM) (ht := onec_row _ _ _); rfl; rfl; rfl; (repeat first | exact .head _ _ | apply Pick.tail)) | (apply ld_one (hM := hM) (hv := onec_64) (ht := one3); rfl; rfl; rfl; (repeat first | exact .head _ _ | apply Pick.tail)) | (apply st_cell (hM := hM) (i := 64) (ht := one3); rfl; rfl; rfl; (first | (focus (go_simp; done)) | (focus (go_simp; rfl))); (repeat first | exact .head _ _ | apply Pick.tail); (rw [onec_size]; decide); rfl; intro w1 hM1; clear hM; (rw [onec_hold] at hM1); have hM := hM1; clear hM1) | (apply al_box (hM := hM); rfl; rfl; (first | (focus (go_simp; done)) | (focus (go_simp; rfl))); clear hM; intro gb w1 hM; dsimp only [Value.cells] at hM) | (apply al_zero (hM := hM); rfl; rfl; (first | exact zero55 | exact zero58); clear hM; intro gz w1 hM; dsimp only [Value.cells] at hM) | (apply ld_row (hM := hM); rfl; rfl; rfl; (repeat first | exact .head _ _ | apply Pick.tail); (first | exact row55)) | (apply st_row (hM := hM); rfl; rfl; rfl; (first | (focus (go_simp; done)) | (focus (go_simp; rfl))); (repeat first | exact .head _ _ | apply Pick.tail); rfl; rfl; (first | exact row55); intro w1 hM1; clear hM; (try simp only [q1, q2, q3] at hM1); (try rw [tab_setInt] at hM1);  have hM := hM1; clear hM1) | (apply ld_one (hM := hM); rfl; rfl; rfl; (repeat first | exact .head _ _ | apply Pick.tail); rfl; (first | exact one3 | exact one39 | exact one22)) | (apply st_cell (hM := hM); rfl; rfl; rfl; (first | (focus (go_simp; done)) | (focus (go_simp; rfl))); (repeat first | exact .head _ _ | apply Pick.tail); simp; rfl; (first | exact one3 | exact one39 | exact one22); intro w1 hM1; clear hM; (try simp only [q1, q2, q3] at hM1); (try rw [tab_setInt] at hM1);  have hM := hM1; clear hM1)); simp only [q0, q9, q1, q2, q3])
 go_ret
 exact ⟨rfl, hM.below⟩

theorem walk (w : World) (y : Value) (ops : List Op6) (hO : Recs w 6 (OpRec w) y ops) (n0 : Int) : Calls Try.prog 7 #[.int .i64 n0, y] w fun e w' => e = .returned (.bool true) ∧ Below w.heap.size w w' := by
 by_cases h1 : n0 < 0
 · obtain ⟨b, c, rfl⟩ := hO.len
   exact bp_a w n0 b _ c h1
 by_cases h2 : 16384 < n0
 · obtain ⟨b, c, rfl⟩ := hO.len
   exact bp_b w n0 b _ c (by omega) h2
 obtain ⟨n0, rfl⟩ := Int.eq_ofNat_of_zero_le (a := n0) (by omega)
 by_cases h3 : 100 < ops.length
 · obtain ⟨b, c, rfl⟩ := hO.len
   exact bp_c w n0 b _ c (by omega) h3
 exact bp_ok w n0 y ops hO (by omega) (by omega)
end Go.Proofs.Ytiamkbmefllljaa.Bp
