/- Contents of which anything is made have just the bytes that were put to each. No condition. -/
import Derived.Test.YtiamkbmefllljaaKeeps
import Derived.Test.YtiamkbmefllljaaOpen
import Derived.Test.YtiamkbmefllljaaShrt
set_option linter.unusedSimpArgs false
set_option linter.unusedVariables false
namespace Go.Proofs.Ytiamkbmefllljaa.Plays
open Go.RowKit Go.ChangeShapes Go.WideShapes Go.Proofs.Ytiamkbmefllljaa.M Go.Proofs.Ytiamkbmefllljaa.A Go.Proofs.Ytiamkbmefllljaa.L Go.Proofs.Ytiamkbmefllljaa.E

theorem sl44 : SlTy Try.prog 44 41 2 32 (.agg #[.slice none 0 0, .int .i64 0]) := ⟨by kernel_rfl, by kernel_rfl⟩
theorem cf24 : ∀ (vs : Array Value) (w : World), (callFunc 24 vs).run Try.prog w = .ok (.enter 24 vs) w := fun vs w => by kernel_rfl
/-- A content's cells. -/
def ctc (c : Ct) : List Value := [c.x, .int .i64 (c.b.length : Nat)]
theorem ctc_len (cs : List Ct) : ∀ c ∈ cs, (ctc c).length = 2 := fun _ _ => rfl

theorem came_cell {w0 : Base} {w : World} {fr l : List Blk} {a : Addr} {v : Value} (hM : Mem w0 w fr l) (h : w0.w.cell? a = some v) : w.cell? a = some v :=
  (hM.oldCell (cell_lt h)).trans h

theorem str_app (a b : List UInt8) : (ByteArray.mk a.toArray) ++ (ByteArray.mk b.toArray) = ByteArray.mk (a ++ b).toArray := by
  apply ByteArray.ext
  simp [ByteArray.data_append]

theorem run_add_str {a b : List UInt8} (hl : a.length + b.length ≤ 1000000) (w : World) : (binOp .add 9 (.string ⟨a.toArray⟩) (.string ⟨b.toArray⟩)).run Try.prog w = .ok (.string ⟨(a ++ b).toArray⟩) w := by
  rw [← str_app]
  have h1 : (ByteArray.mk a.toArray).size = a.length := rfl
  have h2 : (ByteArray.mk b.toArray).size = b.length := rfl
  go_simp
  omega

theorem run_add_op {a : Act} {oi : Oper} {x y : Operand} {bs t : List UInt8} {ty : TypeId} (hop : oi.op = .binOp .add 9 x y ty) (hx : a.eval x = .string ⟨bs.toArray⟩) (hy : a.eval y = .string ⟨t.toArray⟩) (hl : bs.length + t.length ≤ 1000000) (w : World) :
    (execOp a.eval oi).run Try.prog w = .ok (.value (.string ⟨(bs ++ t).toArray⟩)) w := by
  unfold execOp
  simp only [hop, hx, hy, Sem.run_bind, run_add_str hl, Result.andThen_ok]
  rfl

theorem cf22 : ∀ (vs : Array Value) (w : World), (callFunc 22 vs).run Try.prog w = .ok (.enter 22 vs) w := fun vs w => by kernel_rfl
theorem cf28 : ∀ (vs : Array Value) (w : World), (callFunc 28 vs).run Try.prog w = .ok (.enter 28 vs) w := fun vs w => by kernel_rfl
theorem cf29 : ∀ (vs : Array Value) (w : World), (callFunc 29 vs).run Try.prog w = .ok (.enter 29 vs) w := fun vs w => by kernel_rfl
theorem erase_perm {α : Type} {cs : List α} {i : Nat} (h : i < cs.length) : cs.Perm (cs[i] :: cs.eraseIdx i) := by
  rw [List.eraseIdx_eq_take_drop_succ]
  have e : cs = cs.take i ++ cs[i] :: cs.drop (i + 1) := by rw [← List.drop_eq_getElem_cons h, List.take_append_drop]
  exact (List.Perm.of_eq e).trans List.perm_middle
theorem set_perm {α : Type} {cs : List α} {i : Nat} (h : i < cs.length) (x : α) : (cs.set i x).Perm (x :: cs.eraseIdx i) := by
  have h1 := erase_perm (cs := cs.set i x) (i := i) (by rw [List.length_set]; exact h)
  rw [List.getElem_set_self, List.eraseIdx_set_eq] at h1
  exact h1
theorem und44 : Try.prog.underlying 44 = some (.slice 41) := by kernel_rfl
theorem und66 : Try.prog.underlying 66 = some (.slice 9) := by kernel_rfl
theorem has41 : ((Try.prog.info? 41).map (·.size)).isSome = true := by kernel_rfl
theorem has9 : ((Try.prog.info? 9).map (·.size)).isSome = true := by kernel_rfl
theorem size41 : (Try.prog.info? 41).map (·.size) = some 2 := by kernel_rfl
theorem size9 : (Try.prog.info? 9).map (·.size) = some 1 := by kernel_rfl
theorem take_part {bs : List UInt8} {q k : Nat} : (bs.take (q + k)).drop q = (bs.drop q).take k := by
  rw [List.drop_take, Nat.add_sub_cancel_left]
theorem run_sl_part {a : Act} {x lo hi : Operand} {t : TypeId} {bs : List UInt8} {kl kh : IntKind} {V H : Int} {oi : Oper} (w : World) (q k : Nat) (hop : oi.op = .slice t x (some lo) (some hi) none)
    (hu : Try.prog.underlying t = some .string) (hx : a.eval x = .string ⟨bs.toArray⟩) (hlo : a.eval lo = .int kl V) (hhi : a.eval hi = .int kh H) (hL : V = (q : Int)) (hH : H = (q : Int) + k) (h2 : q + k ≤ bs.length) :
    (execOp a.eval oi).run Try.prog w = .ok (.value (.string ⟨((bs.drop q).take k).toArray⟩)) w := by
  rw [← take_part]
  exact run_sl_str w q (q + k) hop hu hx hlo hhi hL (by rw [hH]; exact (Int.natCast_add q k).symm) (by omega) h2
theorem row68 : RowTy Try.prog 68 5 := .of (by kernel_rfl)
theorem one9 : OneTy Try.prog 9 := .of (by kernel_rfl)
theorem zero41 : zeroIs Try.prog 41 (.agg #[.slice none 0 0, .int .i64 0]) := rfl
theorem zero68 : zeroIs Try.prog 68 (.agg #[.int .i64 0, .int .i64 0, .int .i64 0, .int .i64 0, .slice none 0 0]) := by unfold zeroIs; kernel_rfl
theorem sl66 : SlTy Try.prog 66 9 1 16 (.string ⟨#[]⟩) := ⟨by kernel_rfl, by kernel_rfl⟩

/-- Something to do with contents. -/
structure Op5 where
  k : Int
  p : Int
  a : Int
  n : Int
  d : List UInt8

/-- .. as it lies in memory. -/
def OpRec (W : World) : Op5 → List Value → Prop := fun o cs => ∃ v, cs = [.int .i64 o.k, .int .i64 o.p, .int .i64 o.a, .int .i64 o.n, v] ∧ Bytes W v o.d

theorem size5_ {cs : List Value} (h : cs.length = 5) : ∃ c0 c1 c2 c3 c4, cs = [c0, c1, c2, c3, c4] := by
  match cs, h with
  | [c0, c1, c2, c3, c4], _ => exact ⟨_, _, _, _, _, rfl⟩

theorem opened_ops {H : Type} {enc : TypeId × Value → H} {W : World} {base : Nat} {v : Value} {d : DataW H} {p : List MemPlace} (hval : Value.okWide Try.prog W .any base 65 v) (h : DataW.Trod enc Try.prog W 0 (fun _ => true) true 65 v d p) :
    ∃ l, Recs W 5 (OpRec W) v l := by
  obtain ⟨a, len, cap, rfl⟩ := okWide_slice Try.underlying65 hval
  obtain ⟨fuel, hf⟩ := h
  have hf' : DataW.trod enc Try.prog W 0 (fun _ => true) true fuel 65 [.slice a len cap] = some (d, p) := hf
  obtain ⟨v', l, hv, hr⟩ := open_recs (α := Op5) (k := 5) (E := OpRec W) Try.underlying65 (by kernel_rfl) hf' (fun n cs d hd hl => by
    obtain ⟨c0, c1, c2, c3, c4, rfl⟩ := size5_ hl
    obtain ⟨xs, m, _, hx, _, hlen, hfld⟩ := DataW.trod_struct Try.underlying68 hd
    have e0 : DataW.trod enc Try.prog W 0 (fun _ => true) true m 3 ((([c0, c1, c2, c3, c4] : List Value).drop 0).take (Try.prog.cellsOf 3)) = xs[0]? := hfld 0 _ rfl
    rw [show Try.prog.cellsOf 3 = 1 by kernel_rfl] at e0
    obtain ⟨z0, q0, _, u0⟩ := DataW.trod_int Try.underlying3 (x := xs[0]'(by rw [hlen]; decide)) (e0.trans (List.getElem?_eq_getElem _))
    have e1 : DataW.trod enc Try.prog W 0 (fun _ => true) true m 3 ((([c0, c1, c2, c3, c4] : List Value).drop 1).take (Try.prog.cellsOf 3)) = xs[1]? := hfld 1 _ rfl
    rw [show Try.prog.cellsOf 3 = 1 by kernel_rfl] at e1
    obtain ⟨z1, q1, _, u1⟩ := DataW.trod_int Try.underlying3 (x := xs[1]'(by rw [hlen]; decide)) (e1.trans (List.getElem?_eq_getElem _))
    have e2 : DataW.trod enc Try.prog W 0 (fun _ => true) true m 3 ((([c0, c1, c2, c3, c4] : List Value).drop 2).take (Try.prog.cellsOf 3)) = xs[2]? := hfld 2 _ rfl
    rw [show Try.prog.cellsOf 3 = 1 by kernel_rfl] at e2
    obtain ⟨z2, q2, _, u2⟩ := DataW.trod_int Try.underlying3 (x := xs[2]'(by rw [hlen]; decide)) (e2.trans (List.getElem?_eq_getElem _))
    have e3 : DataW.trod enc Try.prog W 0 (fun _ => true) true m 3 ((([c0, c1, c2, c3, c4] : List Value).drop 3).take (Try.prog.cellsOf 3)) = xs[3]? := hfld 3 _ rfl
    rw [show Try.prog.cellsOf 3 = 1 by kernel_rfl] at e3
    obtain ⟨z3, q3, _, u3⟩ := DataW.trod_int Try.underlying3 (x := xs[3]'(by rw [hlen]; decide)) (e3.trans (List.getElem?_eq_getElem _))
    have e4 : DataW.trod enc Try.prog W 0 (fun _ => true) true m 22 ((([c0, c1, c2, c3, c4] : List Value).drop 4).take (Try.prog.cellsOf 22)) = xs[4]? := hfld 4 _ rfl
    rw [show Try.prog.cellsOf 22 = 1 by kernel_rfl] at e4
    obtain ⟨v4, z4, q4, hb4⟩ := open_bytes' (e4.trans (List.getElem?_eq_getElem (by rw [hlen]; decide)))
    simp at q0 q1 q2 q3 q4
    subst q0 q1 q2 q3
    exact ⟨⟨z0, z1, z2, z3, z4⟩, v4, by rw [q4], hb4⟩)
  simp only [List.cons.injEq, and_true] at hv
  subst hv
  exact ⟨l, hr⟩

/-- What is wanted of a content: its bytes, as a string. -/
def cws (c : Ct) : List Value := [.string ⟨c.b.toArray⟩]
theorem cws_len (cs : List Ct) : ∀ c ∈ cs, (cws c).length = 1 := fun _ _ => rfl
theorem ctc_one {B : Base} {w : World} {fr l : List Blk} {cs : List Ct} (hM : Mem B w fr l) (hI : In B cs) : allOne (cs.flatMap ctc) = true := by
  rw [allOne_iff]
  intro u hu
  obtain ⟨c, hc, hu⟩ := List.mem_flatMap.1 hu
  obtain ⟨b, k, hx⟩ := (hI c hc _ _ _ hM).len
  unfold ctc at hu
  rw [hx] at hu
  simp only [List.mem_cons, List.not_mem_nil, or_false] at hu
  rcases hu with rfl | rfl <;> rfl
theorem cws_one {cs : List Ct} : allOne (cs.flatMap cws) = true := by
  rw [allOne_iff]
  intro u hu
  obtain ⟨c, hc, hu⟩ := List.mem_flatMap.1 hu
  simp only [cws, List.mem_cons, List.not_mem_nil, or_false] at hu
  subst hu
  rfl

theorem op_get {w : World} {b : Option Addr} {c : Nat} {l : List Op5} (h : Recs w 5 (OpRec w) (.slice b l.length c) l) {j : Nat} (hj : j < l.length) :
    ∃ a tb tc, b = some a ∧ (∀ i u, [Value.int .i64 l[j].k, .int .i64 l[j].p, .int .i64 l[j].a, .int .i64 l[j].n, .slice tb l[j].d.length tc][i]? = some u → w.cell? ((a.add (j * 5)).add i) = some u) ∧ Bytes w (.slice tb l[j].d.length tc) l[j].d := by
  obtain ⟨a, cs, ha, h1, h2, v, rfl, hb⟩ := h.get hj
  obtain ⟨tb, tc, rfl⟩ := hb.len
  exact ⟨a, tb, tc, ha, h2, hb⟩

theorem more_need (H : Nat → Int) (L : List Nat) (n k : Nat) : nd (n + k) - nd n ≤ more H L n k ∧ more H L n k ≤ nd (n + k) - nd n + 1 := by
  unfold more mo
  by_cases hk : k = 0
  · rw [if_pos hk, hk]; simp
  · rw [if_neg hk]
    split <;> omega

set_option maxRecDepth 100000 in
set_option maxHeartbeats 40000000 in
theorem plays_ok (w : World) (n0 : Nat) (y : Value) (ops : List Op5) (hO : Recs w 5 (OpRec w) y ops) (hn0 : n0 ≤ 200) (hz : ops.length ≤ 60) : Calls Try.prog 12 #[.int .i64 n0, y] w fun e w' => e = .returned (.bool true) ∧ Below w.heap.size w w' := by
 have hM := Mem.start w
 obtain ⟨yb, yc, rfl⟩ := hO.len
 have d9 : decide ((n0 : Int) < 0) = false := decide_eq_false (by omega)
 have d8 : decide ((n0 : Int) > 200) = false := decide_eq_false (by omega)
 have d7 : decide ((ops.length : Int) > 60) = false := decide_eq_false (by omega)
 go_enter Try.func12, Try.ntmps12
 go_wp2_with (first | (go_at_call 27; (with_reducible refine (keeps_mem _).mono ?_); rintro e w3 ⟨rfl, hb⟩; replace hM := hM.step hb; clear hb) | ((with_reducible refine wpl ?_); (first | (apply al_box (hM := hM); rfl; rfl; (first | (focus (go_simp; done)) | (focus (go_simp; rfl))); clear hM; intro gb w1 hM; dsimp only [Value.cells] at hM) | (apply al_zero (hM := hM); rfl; rfl; (first | exact zero41 | exact zero68); clear hM; intro gz w1 hM; dsimp only [Value.cells] at hM) | (apply ld_row (hM := hM); rfl; rfl; rfl; (repeat first | exact .head _ _ | apply Pick.tail); (first | exact row41 | exact row68)) | (apply st_row (hM := hM); rfl; rfl; rfl; (first | (focus (go_simp; done)) | (focus (go_simp; rfl))); (repeat first | exact .head _ _ | apply Pick.tail); rfl; rfl; (first | exact row41 | exact row68); intro w1 hM1; clear hM; (try simp only [q1, q2, q3] at hM1); (try rw [tab_setInt] at hM1);  have hM := hM1; clear hM1) | (apply ld_one (hM := hM); rfl; rfl; rfl; (repeat first | exact .head _ _ | apply Pick.tail); rfl; (first | exact one3 | exact one39 | exact one22 | exact one9)) | (apply st_cell (hM := hM); rfl; rfl; rfl; (first | (focus (go_simp; done)) | (focus (go_simp; rfl))); (repeat first | exact .head _ _ | apply Pick.tail); simp; rfl; (first | exact one3 | exact one39 | exact one22 | exact one9); intro w1 hM1; clear hM; (try simp only [q1, q2, q3] at hM1); (try rw [tab_setInt] at hM1);  have hM := hM1; clear hM1)); simp only [q0, q9, q1, q2, q3]))
 refine (new hM n0 (by omega) rfl).mono ?_
 clear hM
 rintro e w3 ⟨p, s, rfl, hn, ok, hm, hH, hM⟩
 have hc0 := Cs.start ok hH
 have hm := hid_ hm
 replace hn := hid_ hn
 have hn0i : (n0 : Int) ≤ 200 := by omega
 go_wp2_with ((with_reducible refine wpl ?_); (first | (apply al_box (hM := hM); rfl; rfl; (first | (focus (go_simp; done)) | (focus (go_simp; rfl))); clear hM; intro gb w1 hM; dsimp only [Value.cells] at hM) | (apply al_zero (hM := hM); rfl; rfl; (first | exact zero41 | exact zero68); clear hM; intro gz w1 hM; dsimp only [Value.cells] at hM) | (apply ld_row (hM := hM); rfl; rfl; rfl; (repeat first | exact .head _ _ | apply Pick.tail); (first | exact row41 | exact row68)) | (apply st_row (hM := hM); rfl; rfl; rfl; (first | (focus (go_simp; done)) | (focus (go_simp; rfl))); (repeat first | exact .head _ _ | apply Pick.tail); rfl; rfl; (first | exact row41 | exact row68); intro w1 hM1; clear hM; (try simp only [q1, q2, q3] at hM1); (try rw [tab_setInt] at hM1);  have hM := hM1; clear hM1) | (apply ld_one (hM := hM); rfl; rfl; rfl; (repeat first | exact .head _ _ | apply Pick.tail); rfl; (first | exact one3 | exact one39 | exact one22 | exact one9)) | (apply st_cell (hM := hM); rfl; rfl; rfl; (first | (focus (go_simp; done)) | (focus (go_simp; rfl))); (repeat first | exact .head _ _ | apply Pick.tail); simp; rfl; (first | exact one3 | exact one39 | exact one22 | exact one9); intro w1 hM1; clear hM; (try simp only [q1, q2, q3] at hM1); (try rw [tab_setInt] at hM1);  have hM := hM1; clear hM1)); simp only [q0, q9, q1, q2, q3])
 go_loopw [47, 7, 8] (fun xj xa xw wr => ∃ (j : Nat) (ss : St) (B : Base) (cs : List Ct) (va vw : Value) (Ra Rw : List Blk), j ≤ ops.length ∧ xj = .int .i64 j ∧ xa = va ∧ xw = vw ∧ Le (w : Base) B ∧ Cs p ss cs ∧ In B cs ∧ Hid (cs.length ≤ j) ∧ Hid (∀ d ∈ cs, d.b.length ≤ 1000 * j) ∧ Tbl 41 2 va (cs.flatMap ctc) Ra ∧ Tbl 9 1 vw (cs.flatMap cws) Rw ∧ Mem B wr (arena p ss) (Ra ++ Rw)) (fun xj _ _ _ => ops.length - (intOf xj).toNat)
 case atStart => exact ⟨0, s, _, [], _, _, [], [], Nat.zero_le _, by go_num, rfl, rfl, Le.refl _, hc0, In.nil _, hid_ (Nat.zero_le _), hid_ (fun d hd => by simp at hd), .nil, .nil, hM⟩
 case round =>
  obtain ⟨j, ss, B, cs, va, vw, Ra, Rw, hj, rfl, rfl, rfl, hle, hcs, hIs, hjl, hdl, hTa, hTw, hMr⟩ := hrel
  clear hM
  have hM := hMr
  clear hMr
  by_cases hlt : j < ops.length
  · obtain ⟨ya, tb, tc, rfl, hrec, hbt⟩ := op_get hO hlt
    have hrec := hid_ hrec
    have hfa : (cs.flatMap ctc).length ≤ 200 := by rw [flat_len ctc 2 (ctc_len _)]; have := hjl.out; omega
    have hfw : (cs.flatMap cws).length ≤ 200 := by rw [flat_len cws 1 (cws_len _)]; have := hjl.out; omega
    generalize ops[j] = oo at hrec hbt
    obtain ⟨ok_, op_, oa_, on_, td⟩ := oo
    simp only at hrec hbt
    by_cases htd : td.length ≤ 1000
    · have t1 : decide ((td.length : Int) > 1000) = false := decide_eq_false (by omega)
      obtain ⟨ab, an, ac, rfl, hFa⟩ := hTa.slice
      obtain ⟨wb, wn, wc, rfl, hFw⟩ := hTw.slice
      have han : Hid (an = cs.length) := hid_ (by rw [flat_len ctc 2 (ctc_len _)] at hFa; omega)
      have hwn : Hid (wn = cs.length) := hid_ (by rw [flat_len cws 1 (cws_len _)] at hFw; omega)
      clear hFa hFw
      by_cases h4 : ok_ = 4
      · have t2 : (ok_ == 4) = true := beq_iff_eq.2 h4
        clear h4
        as_aux_lemma =>
         go_wp2_with ((with_reducible refine wpl ?_); (first | (apply al_elem (hM := hM) (ht := sl44) (v := .agg #[.slice none 0 0, .int .i64 0]) (cells := #[.slice none 0 0, .int .i64 0]); rfl; rfl; decide; (first | rfl | (focus (go_simp; done))); simp [Instr.fill, Value.cells, Array.range_succ, Array.range_zero']; clear hM; intro gq w1 hM) | (apply tb_app_p (hM := hM) (hT := hTa) (es := [.slice none 0 0, .int .i64 0]) (A := ⟨gz, #[.int .i64 ok_, .int .i64 op_, .int .i64 oa_, .int .i64 on_, .slice tb td.length tc], 68, (0, 0)⟩ :: Rw) (ht := sl44); rfl; rfl; rfl; exact List.Perm.cons _ List.perm_append_comm; rfl; rfl; rfl; rfl; decide; omega; omega; intro g c n cells w1 hn1 hTa1 hM1; clear hM; simp only [List.cons_append] at hM1; have hM := hM1; clear hM1) | (apply al_one (hM := hM) (v := .string ⟨#[]⟩) (ht := sl66); rfl; rfl; rfl; rfl; clear hM; intro gq2 w1 hM) | (apply tb_app_p (hM := hM) (hT := hTw) (es := [.string ⟨#[]⟩]) (A := [⟨gz, #[.int .i64 ok_, .int .i64 op_, .int .i64 oa_, .int .i64 on_, .slice tb td.length tc], 68, (0, 0)⟩, ⟨g, cells, 41, (0, 0)⟩]) (ht := sl66); rfl; rfl; rfl; exact List.Perm.cons _ (List.perm_append_singleton _ _); rfl; rfl; rfl; rfl; decide; omega; omega; intro g2 c2 n2 cells2 w1 hn2 hTw1 hM1; clear hM; simp only [List.cons_append, List.nil_append] at hM1; have hM := hM1; clear hM1) | (apply ld_any [.int .i64 ok_, .int .i64 op_, .int .i64 oa_, .int .i64 on_, .slice tb td.length tc]; rfl; rfl; rfl; exact (fun i u hu => came_cell (hle.mem hM) (hrec.out i u hu)); exact row68) | (apply al_box (hM := hM); rfl; rfl; (first | (focus (go_simp; done)) | (focus (go_simp; rfl))); clear hM; intro gb w1 hM; dsimp only [Value.cells] at hM) | (apply al_zero (hM := hM); rfl; rfl; (first | exact zero41 | exact zero68); clear hM; intro gz w1 hM; dsimp only [Value.cells] at hM) | (apply ld_row (hM := hM); rfl; rfl; rfl; (repeat first | exact .head _ _ | apply Pick.tail); (first | exact row41 | exact row68)) | (apply st_row (hM := hM); rfl; rfl; rfl; (first | (focus (go_simp; done)) | (focus (go_simp; rfl))); (repeat first | exact .head _ _ | apply Pick.tail); rfl; rfl; (first | exact row41 | exact row68); intro w1 hM1; clear hM; (try simp only [q1, q2, q3] at hM1); (try rw [tab_setInt] at hM1);  have hM := hM1; clear hM1) | (apply ld_one (hM := hM); rfl; rfl; rfl; (repeat first | exact .head _ _ | apply Pick.tail); rfl; (first | exact one3 | exact one39 | exact one22 | exact one9)) | (apply st_cell (hM := hM); rfl; rfl; rfl; (first | (focus (go_simp; done)) | (focus (go_simp; rfl))); (repeat first | exact .head _ _ | apply Pick.tail); simp; rfl; (first | exact one3 | exact one39 | exact one22 | exact one9); intro w1 hM1; clear hM; (try simp only [q1, q2, q3] at hM1); (try rw [tab_setInt] at hM1);  have hM := hM1; clear hM1)); simp only [q0, q9, q1, q2, q3])
         go_roundw
         case rel =>
          refine ⟨j + 1, ss, B, cs ++ [none_], _, _, _, _, by omega, by go_num, rfl, rfl, hle, hcs.begin_.perm (List.perm_append_singleton _ _).symm, (hIs.cons (c := none_) (IdsAt.nil _)).perm (List.perm_append_singleton _ _).symm, hid_ (by rw [List.length_append, List.length_singleton]; have := hjl.out; omega), hid_ (fun d hd => ?_), by rw [← flat_app]; exact hTa1, by rw [← flat_app]; exact hTw1, hM.tail⟩
          rcases List.mem_append.1 hd with hd | hd
          · have := hdl.out d hd; omega
          · rw [List.mem_singleton] at hd
            subst hd
            exact Nat.zero_le _
         case measure => simp [intOf]; omega
      · have t2 : (ok_ == 4) = false := beq_eq_false_iff_ne.2 h4
        clear h4
        by_cases h0 : an = 0
        · have t3 : ((an : Int) == 0) = true := beq_iff_eq.2 (by omega)
          clear h0
          as_aux_lemma =>
           go_wp2_with ((with_reducible refine wpl ?_); (first | (apply al_elem (hM := hM) (ht := sl44) (v := .agg #[.slice none 0 0, .int .i64 0]) (cells := #[.slice none 0 0, .int .i64 0]); rfl; rfl; decide; (first | rfl | (focus (go_simp; done))); simp [Instr.fill, Value.cells, Array.range_succ, Array.range_zero']; clear hM; intro gq w1 hM) | (apply tb_app_p (hM := hM) (hT := hTa) (es := [.slice none 0 0, .int .i64 0]) (A := ⟨gz, #[.int .i64 ok_, .int .i64 op_, .int .i64 oa_, .int .i64 on_, .slice tb td.length tc], 68, (0, 0)⟩ :: Rw) (ht := sl44); rfl; rfl; rfl; exact List.Perm.cons _ List.perm_append_comm; rfl; rfl; rfl; rfl; decide; omega; omega; intro g c n cells w1 hn1 hTa1 hM1; clear hM; simp only [List.cons_append] at hM1; have hM := hM1; clear hM1) | (apply al_one (hM := hM) (v := .string ⟨#[]⟩) (ht := sl66); rfl; rfl; rfl; rfl; clear hM; intro gq2 w1 hM) | (apply tb_app_p (hM := hM) (hT := hTw) (es := [.string ⟨#[]⟩]) (A := [⟨gz, #[.int .i64 ok_, .int .i64 op_, .int .i64 oa_, .int .i64 on_, .slice tb td.length tc], 68, (0, 0)⟩, ⟨g, cells, 41, (0, 0)⟩]) (ht := sl66); rfl; rfl; rfl; exact List.Perm.cons _ (List.perm_append_singleton _ _); rfl; rfl; rfl; rfl; decide; omega; omega; intro g2 c2 n2 cells2 w1 hn2 hTw1 hM1; clear hM; simp only [List.cons_append, List.nil_append] at hM1; have hM := hM1; clear hM1) | (apply ld_any [.int .i64 ok_, .int .i64 op_, .int .i64 oa_, .int .i64 on_, .slice tb td.length tc]; rfl; rfl; rfl; exact (fun i u hu => came_cell (hle.mem hM) (hrec.out i u hu)); exact row68) | (apply al_box (hM := hM); rfl; rfl; (first | (focus (go_simp; done)) | (focus (go_simp; rfl))); clear hM; intro gb w1 hM; dsimp only [Value.cells] at hM) | (apply al_zero (hM := hM); rfl; rfl; (first | exact zero41 | exact zero68); clear hM; intro gz w1 hM; dsimp only [Value.cells] at hM) | (apply ld_row (hM := hM); rfl; rfl; rfl; (repeat first | exact .head _ _ | apply Pick.tail); (first | exact row41 | exact row68)) | (apply st_row (hM := hM); rfl; rfl; rfl; (first | (focus (go_simp; done)) | (focus (go_simp; rfl))); (repeat first | exact .head _ _ | apply Pick.tail); rfl; rfl; (first | exact row41 | exact row68); intro w1 hM1; clear hM; (try simp only [q1, q2, q3] at hM1); (try rw [tab_setInt] at hM1);  have hM := hM1; clear hM1) | (apply ld_one (hM := hM); rfl; rfl; rfl; (repeat first | exact .head _ _ | apply Pick.tail); rfl; (first | exact one3 | exact one39 | exact one22 | exact one9)) | (apply st_cell (hM := hM); rfl; rfl; rfl; (first | (focus (go_simp; done)) | (focus (go_simp; rfl))); (repeat first | exact .head _ _ | apply Pick.tail); simp; rfl; (first | exact one3 | exact one39 | exact one22 | exact one9); intro w1 hM1; clear hM; (try simp only [q1, q2, q3] at hM1); (try rw [tab_setInt] at hM1);  have hM := hM1; clear hM1)); simp only [q0, q9, q1, q2, q3])
           go_roundw
           case rel =>
            refine ⟨j + 1, ss, B, cs ++ [none_], _, _, _, _, by omega, by go_num, rfl, rfl, hle, hcs.begin_.perm (List.perm_append_singleton _ _).symm, (hIs.cons (c := none_) (IdsAt.nil _)).perm (List.perm_append_singleton _ _).symm, hid_ (by rw [List.length_append, List.length_singleton]; have := hjl.out; omega), hid_ (fun d hd => ?_), by rw [← flat_app]; exact hTa1, by rw [← flat_app]; exact hTw1, hM.tail⟩
            rcases List.mem_append.1 hd with hd | hd
            · have := hdl.out d hd; omega
            · rw [List.mem_singleton] at hd
              subst hd
              exact Nat.zero_le _
           case measure => simp [intOf]; omega
        · have t3 : ((an : Int) == 0) = false := beq_eq_false_iff_ne.2 (by omega)
          have hn1 : 0 < an := by omega
          clear h0
          have hwn1 : 0 < wn := by have h1 := han.out; have h2 := hwn.out; omega
          obtain ⟨ga, ca, rfl, rfl, hca, hacl, hcea⟩ := hTa.inv hn1
          obtain ⟨gw, cw, rfl, rfl, hcw, hwcl, hcew⟩ := hTw.inv hwn1
          simp only [List.cons_append, List.nil_append] at hM
          obtain ⟨pm, hpm⟩ : ∃ pm : Nat, Hid ((pm : Int) = if 0 < op_ then op_ else 0) := ⟨op_.toNat, hid_ (by split <;> omega)⟩
          obtain ⟨i, hi⟩ : ∃ i, Hid (i = pm % an) := ⟨_, hid_ rfl⟩
          have hian : i < an := by rw [hi.out]; exact Nat.mod_lt _ hn1
          have hmod : (pm : Int) % (an : Int) = (i : Int) := by rw [hi.out]; exact (Int.natCast_emod _ _).symm
          have hics : i < cs.length := by have := han.out; omega
          have hiwn : i < wn := by have h1 := han.out; have h2 := hwn.out; omega
          have hi0 : (0 : Int) ≤ (i : Int) := by omega
          have hi1 : (i : Int) < (an : Int) := by omega
          have hi2 : (i : Int) < (wn : Int) := by omega
          have hanb : an ≤ 100 := by have h1 := han.out; have h2 := hjl.out; omega
          have hwnb : wn ≤ 100 := by have h1 := hwn.out; have h2 := hjl.out; omega
          have hn1i : (0 : Int) < (an : Int) := by omega
          obtain ⟨ci, hci⟩ : ∃ c, Hid (c = cs[i]) := ⟨_, hid_ rfl⟩
          have hmem : ci ∈ cs := by rw [hci.out]; exact List.getElem_mem _
          have hela : Hid (∀ q v, (ctc ci)[q]? = some v → ca[i * 2 + q]? = some v) := hid_ (fun q v hq => by
           have h1 : q < 2 := (List.getElem?_eq_some_iff.1 hq).1
           rw [hcea.out _ (by omega), flat_at ctc 2 (ctc_len _) hics q h1, ← hci.out]
           exact hq)
          have helw : Hid (cw[i]? = some (.string ⟨ci.b.toArray⟩)) := hid_ (by
           have h2 := flat_at cws 1 (cws_len _) hics 0 (by omega)
           rw [Nat.mul_one, Nat.add_zero] at h2
           rw [hcew.out _ (by omega), h2, ← hci.out]
           rfl)
          have hperm : Hid (cs.Perm (ci :: cs.eraseIdx i)) := hid_ (by rw [hci.out]; exact erase_perm hics)
          have hIx := hIs _ hmem
          have hbl := hdl.out _ hmem
          obtain ⟨x, L, b⟩ := ci
          obtain ⟨xa, xk, hxx⟩ := (hIx _ _ _ hM).len
          simp only at hxx hbl
          subst hxx
          have hela : Hid (∀ q v, [Value.slice xa L.length xk, .int .i64 (b.length : Nat)][q]? = some v → ca[i * 2 + q]? = some v) := hela
          have helw : Hid (cw[i]? = some (.string ⟨b.toArray⟩)) := helw
          have hc1 := hcs.perm hperm.out
          have hI1 := hIs.perm hperm.out
          have hblb : b.length ≤ 60000 := by omega
          have hlenc : (cs.eraseIdx i).length + 1 = cs.length := by rw [List.length_eraseIdx, if_pos hics]; omega
          replace hlenc := hid_ hlenc
          go_wp2_with ((with_reducible refine wpl ?_); (first | (apply ld_any [.int .i64 ok_, .int .i64 op_, .int .i64 oa_, .int .i64 on_, .slice tb td.length tc]; rfl; rfl; rfl; exact (fun i u hu => came_cell (hle.mem hM) (hrec.out i u hu)); exact row68) | (apply mx_zero (pm := pm); rfl; rfl; rfl; rfl; exact hpm) | (apply al_box (hM := hM); rfl; rfl; (first | (focus (go_simp; done)) | (focus (go_simp; rfl))); clear hM; intro gb w1 hM; dsimp only [Value.cells] at hM) | (apply al_zero (hM := hM); rfl; rfl; (first | exact zero41 | exact zero68); clear hM; intro gz w1 hM; dsimp only [Value.cells] at hM) | (apply ld_row (hM := hM); rfl; rfl; rfl; (repeat first | exact .head _ _ | apply Pick.tail); (first | exact row41 | exact row68)) | (apply st_row (hM := hM); rfl; rfl; rfl; (first | (focus (go_simp; done)) | (focus (go_simp; rfl))); (repeat first | exact .head _ _ | apply Pick.tail); rfl; rfl; (first | exact row41 | exact row68); intro w1 hM1; clear hM; (try simp only [q1, q2, q3] at hM1); (try rw [tab_setInt] at hM1);  have hM := hM1; clear hM1) | (apply ld_one (hM := hM); rfl; rfl; rfl; (repeat first | exact .head _ _ | apply Pick.tail); rfl; (first | exact one3 | exact one39 | exact one22 | exact one9)) | (apply st_cell (hM := hM); rfl; rfl; rfl; (first | (focus (go_simp; done)) | (focus (go_simp; rfl))); (repeat first | exact .head _ _ | apply Pick.tail); simp; rfl; (first | exact one3 | exact one39 | exact one22 | exact one9); intro w1 hM1; clear hM; (try simp only [q1, q2, q3] at hM1); (try rw [tab_setInt] at hM1);  have hM := hM1; clear hM1)); simp only [q0, q9, q1, q2, q3])
          refine (free hM hcs.ok (ss.m : Nat) rfl).mono ?_
          clear hM
          rintro e w3 ⟨rfl, hM⟩
          obtain ⟨gO, rfl⟩ : ∃ g : Nat, g = gz := ⟨_, rfl⟩
          by_cases hk : ok_ = 0
          · have s0 : (ok_ == 0) = true := beq_iff_eq.2 hk
            clear hk
            have hf0 := more_need ss.H L b.length td.length
            clear hf0
            by_cases hfit : more ss.H L b.length td.length ≤ ss.m
            · replace hfit := hid_ hfit
              as_aux_lemma =>
               have hbk : BsAt B (.slice tb td.length tc) td := fun w' fr' l' h' => hbt.came (hle.mem h')
               obtain ⟨nl, hnl⟩ : ∃ nl, Hid (nl = b.length + td.length) := ⟨_, hid_ rfl⟩
               go_wp2_with ((with_reducible refine wpl ?_); (first | (apply al_box (hM := hM); rfl; rfl; (first | (focus (go_simp; done)) | (focus (go_simp; rfl))); clear hM; intro gb w1 hM; dsimp only [Value.cells] at hM) | (apply al_zero (hM := hM); rfl; rfl; (first | exact zero41 | exact zero68); clear hM; intro gz w1 hM; dsimp only [Value.cells] at hM) | (apply ld_row (hM := hM); rfl; rfl; rfl; (repeat first | exact .head _ _ | apply Pick.tail); (first | exact row41 | exact row68)) | (apply st_row (hM := hM); rfl; rfl; rfl; (first | (focus (go_simp; done)) | (focus (go_simp; rfl))); (repeat first | exact .head _ _ | apply Pick.tail); rfl; rfl; (first | exact row41 | exact row68); intro w1 hM1; clear hM; (try simp only [q1, q2, q3] at hM1); (try rw [tab_setInt] at hM1);  have hM := hM1; clear hM1) | (apply ld_one (hM := hM); rfl; rfl; rfl; (repeat first | exact .head _ _ | apply Pick.tail); rfl; (first | exact one3 | exact one39 | exact one22 | exact one9)) | (apply st_cell (hM := hM); rfl; rfl; rfl; (first | (focus (go_simp; done)) | (focus (go_simp; rfl))); (repeat first | exact .head _ _ | apply Pick.tail); simp; rfl; (first | exact one3 | exact one39 | exact one22 | exact one9); intro w1 hM1; clear hM; (try simp only [q1, q2, q3] at hM1); (try rw [tab_setInt] at hM1);  have hM := hM1; clear hM1)); simp only [q0, q9, q1, q2, q3])
               refine reg_begin (fun w' => Mem B w' [] [⟨gO, #[.int .i64 ok_, .int .i64 op_, .int .i64 oa_, .int .i64 on_, .slice tb td.length tc], 68, (0, 0)⟩, ⟨ga, ca, 41, (0, 0)⟩, ⟨gw, cw, 9, (0, 0)⟩]) (by kernel_rfl) hM (fun wd hMd => ?_)
               clear hM
               have hM := hMd
               clear hMd
               have hS := hM.swap.none.swap
               refine rf 0 (own p) hS ?_
               simp only [q0, q9, q1, q2, q3]
               refine rf 1 (.slice (some ⟨ga, 0, none⟩) an ac) hS ?_
               simp only [q0, q9, q1, q2, q3]
               refine rf 2 (.int .i64 (i : Nat)) hS ?_
               simp only [q0, q9, q1, q2, q3]
               refine rf 3 (.pointer (some ⟨ga, i * 2, none⟩)) hS ?_
               simp only [q0, q9, q1, q2, q3]
               refine rg_row 4 [.slice xa L.length xk, .int .i64 (b.length : Nat)] rfl (by kernel_rfl) (by kernel_rfl) (by kernel_rfl) (fun _ _ _ h => h) (by rfl) rfl rfl (fun w' h' => h'.at_off (.tail (.head _ _)) _ hela.out) row41 hS ?_
               simp only [q0, q9, q1, q2, q3]
               refine rf 5 (.pointer (some ⟨gO, 4, none⟩)) hS ?_
               simp only [q0, q9, q1, q2, q3]
               refine rg_one 6 (v := .slice tb td.length tc) rfl (by kernel_rfl) (by kernel_rfl) (by kernel_rfl) (fun _ _ _ h => h) (by rfl) rfl rfl (fun w' h' => (h'.cell (.head _ _) 4).trans rfl) one22 hS ?_
               simp only [q0, q9, q1, q2, q3]
               refine reg_two 7 11 (by kernel_rfl) rfl rfl ?_ ?_
               · as_aux_lemma =>
                  refine call_fn rfl (by rfl) cf22 (cappend (c := ⟨.slice xa L.length xk, L, b⟩) (b' := b ++ td) (v := (b.length : Nat)) (v' := (nl : Nat)) hM hc1 hI1 hbk (by simp only; omega) hfit.out rfl rfl (by rw [hnl.out, List.length_append])) (by simp only [List.map_toArray, List.map_cons, List.map_nil]; rfl) ?_
                  clear hM
                  rintro e w4 ⟨s3, a3, m3, k3, L3, B3, rfl, hl3, hM, hc3, hI3, hf3, ho3⟩
                  clear ho3 hf3
                  refine ⟨_, rfl, ?_⟩
                  clear hS
                  have hS : Mem B w4 [] [⟨gO, #[.int .i64 ok_, .int .i64 op_, .int .i64 oa_, .int .i64 on_, .slice tb td.length tc], 68, (0, 0)⟩, ⟨ga, ca, 41, (0, 0)⟩, ⟨gw, cw, 9, (0, 0)⟩] := (hl3.mem hM).swap.none.swap
                  refine ⟨hS, ?_⟩
                  simp only [q0, q9, q1, q2, q3]
                  refine rf 8 (.tuple #[.agg #[.slice a3 m3 k3, .int .i64 (nl : Nat)], .int .i64 0]) hS ?_
                  simp only [q0, q9, q1, q2, q3]
                  refine rf 9 (.agg #[.slice a3 m3 k3, .int .i64 (nl : Nat)]) hS ?_
                  simp only [q0, q9, q1, q2, q3]
                  refine rf 10 (.int .i64 0) hS ?_
                  simp only [q0, q9, q1, q2, q3]
                  refine reg_step 11 (by kernel_rfl) rfl ?_
                  apply al_zero (hM := hM); rfl; rfl; exact zero41
                  intro gC w5 hM1
                  clear hM
                  dsimp only [Value.cells] at hM1
                  have hM := hM1
                  clear hM1
                  clear hS
                  have hS : Mem B w5 [] [⟨gO, #[.int .i64 ok_, .int .i64 op_, .int .i64 oa_, .int .i64 on_, .slice tb td.length tc], 68, (0, 0)⟩, ⟨ga, ca, 41, (0, 0)⟩, ⟨gw, cw, 9, (0, 0)⟩] := (hl3.mem hM.tail).swap.none.swap
                  refine ⟨hS, ?_⟩
                  simp only [q0, q9, q1, q2, q3]
                  refine reg_step 12 (by kernel_rfl) rfl ?_
                  apply st_row (hM := hM); rfl; rfl; rfl; (first | (focus (go_simp; done)) | (focus (go_simp; rfl))); (repeat first | exact .head _ _ | apply Pick.tail); rfl; rfl; exact row41
                  clear hM
                  intro w6 hM
                  clear hS
                  have hS : Mem B w6 [] [⟨gO, #[.int .i64 ok_, .int .i64 op_, .int .i64 oa_, .int .i64 on_, .slice tb td.length tc], 68, (0, 0)⟩, ⟨ga, ca, 41, (0, 0)⟩, ⟨gw, cw, 9, (0, 0)⟩] := (hl3.mem hM.tail).swap.none.swap
                  refine ⟨hS, ?_⟩
                  simp only [q0, q9, q1, q2, q3]
                  refine rf 13 (.int .i64 0) hS ?_
                  simp only [q0, q9, q1, q2, q3]
                  refine reg_done (by kernel_rfl) ?_
                  clear hS
                  go_wp2_with ((with_reducible refine wpl ?_); (first | (apply al_box (hM := hM); rfl; rfl; (first | (focus (go_simp; done)) | (focus (go_simp; rfl))); clear hM; intro gb w1 hM; dsimp only [Value.cells] at hM) | (apply al_zero (hM := hM); rfl; rfl; (first | exact zero41 | exact zero68); clear hM; intro gz w1 hM; dsimp only [Value.cells] at hM) | (apply ld_row (hM := hM); rfl; rfl; rfl; (repeat first | exact .head _ _ | apply Pick.tail); (first | exact row41 | exact row68)) | (apply st_row (hM := hM); rfl; rfl; rfl; (first | (focus (go_simp; done)) | (focus (go_simp; rfl))); (repeat first | exact .head _ _ | apply Pick.tail); rfl; rfl; (first | exact row41 | exact row68); intro w1 hM1; clear hM; (try simp only [q1, q2, q3] at hM1); (try rw [tab_setInt] at hM1);  have hM := hM1; clear hM1) | (apply ld_one (hM := hM); rfl; rfl; rfl; (repeat first | exact .head _ _ | apply Pick.tail); rfl; (first | exact one3 | exact one39 | exact one22 | exact one9)) | (apply st_cell (hM := hM); rfl; rfl; rfl; (first | (focus (go_simp; done)) | (focus (go_simp; rfl))); (repeat first | exact .head _ _ | apply Pick.tail); simp; rfl; (first | exact one3 | exact one39 | exact one22 | exact one9); intro w1 hM1; clear hM; (try simp only [q1, q2, q3] at hM1); (try rw [tab_setInt] at hM1);  have hM := hM1; clear hM1)); simp only [q0, q9, q1, q2, q3])
                  have hwr1 : IntKind.i64.wrap ((b.length : Int) + td.length) = (b.length : Int) + td.length := IntWalk.i64_in _ (by omega)
                  have hnd1 : (nd (b.length + td.length) : Int) ≤ 1000000 := by unfold nd; omega
                  have hnd2 : (nd b.length : Int) ≤ 1000000 := by unfold nd; omega
                  have hwr2 : IntKind.i64.wrap ((nd (b.length + td.length) : Int) - (nd b.length : Int)) = (nd (b.length + td.length) : Int) - (nd b.length : Int) := IntWalk.i64_in _ (by omega)
                  refine reg_begin (fun w' => Mem B3 w' [] [⟨gC, #[.slice a3 m3 k3, .int .i64 (nl : Nat)], 41, (0, 0)⟩, ⟨gO, #[.int .i64 ok_, .int .i64 op_, .int .i64 oa_, .int .i64 on_, .slice tb td.length tc], 68, (0, 0)⟩, ⟨ga, ca, 41, (0, 0)⟩, ⟨gw, cw, 9, (0, 0)⟩]) (by kernel_rfl) hM (fun wd hMd => ?_)
                  clear hM
                  have hM := hMd
                  clear hMd
                  have hS := hM.swap.none.swap
                  refine rf 0 (.slice (some ⟨gw, 0, none⟩) wn wc) hS ?_
                  simp only [q0, q9, q1, q2, q3]
                  refine rf 1 (.int .i64 (i : Nat)) hS ?_
                  simp only [q0, q9, q1, q2, q3]
                  refine rf 2 (.pointer (some ⟨gw, i, none⟩)) hS ?_
                  simp only [q0, q9, q1, q2, q3]
                  refine rg_one 3 (v := .string ⟨b.toArray⟩) rfl (by kernel_rfl) (by kernel_rfl) (by kernel_rfl) (fun _ _ _ h => h) (by rfl) rfl rfl (fun w' h' => (h'.cell (.tail (.tail (.tail (.head _ _)))) i).trans helw.out) one9 hS ?_
                  simp only [q0, q9, q1, q2, q3]
                  refine rf 4 (.int .i64 (b.length : Nat)) hS ?_
                  simp only [q0, q9, q1, q2, q3]
                  refine rf 5 (.pointer (some ⟨gO, 4, none⟩)) hS ?_
                  simp only [q0, q9, q1, q2, q3]
                  refine rg_one 6 (v := .slice tb td.length tc) rfl (by kernel_rfl) (by kernel_rfl) (by kernel_rfl) (fun _ _ _ h => h) (by rfl) rfl rfl (fun w' h' => (h'.cell (.tail (.head _ _)) 4).trans rfl) one22 hS ?_
                  simp only [q0, q9, q1, q2, q3]
                  refine rf 7 (.int .i64 (td.length : Nat)) hS ?_
                  simp only [q0, q9, q1, q2, q3]
                  refine rf 8 (.int .i64 ((b.length : Int) + td.length)) hS ?_
                  simp only [q0, q9, q1, q2, q3]
                  refine rf 10 (.slice (some ⟨gw, 0, none⟩) wn wc) hS ?_
                  simp only [q0, q9, q1, q2, q3]
                  refine rf 11 (.int .i64 (i : Nat)) hS ?_
                  simp only [q0, q9, q1, q2, q3]
                  refine rf 12 (.pointer (some ⟨gw, i, none⟩)) hS ?_
                  simp only [q0, q9, q1, q2, q3]
                  refine rg_one 13 (v := .string ⟨b.toArray⟩) rfl (by kernel_rfl) (by kernel_rfl) (by kernel_rfl) (fun _ _ _ h => h) (by rfl) rfl rfl (fun w' h' => (h'.cell (.tail (.tail (.tail (.head _ _)))) i).trans helw.out) one9 hS ?_
                  simp only [q0, q9, q1, q2, q3]
                  refine rf 14 (.int .i64 (b.length : Nat)) hS ?_
                  simp only [q0, q9, q1, q2, q3]
                  refine reg_step 9 (by kernel_rfl) rfl ?_
                  refine call_fn rfl (by rfl) cf29 (need_ hM (b.length + td.length) (by omega) (v := (b.length : Int) + td.length) (by omega)) (by simp only [List.map_toArray, List.map_cons, List.map_nil]; rfl) ?_
                  clear hM
                  rintro e w7 ⟨rfl, hM⟩
                  refine ⟨_, rfl, ?_⟩
                  clear hS
                  have hS := hM.swap.none.swap
                  refine ⟨hS, ?_⟩
                  simp only [q0, q9, q1, q2, q3]
                  refine reg_step 15 (by kernel_rfl) rfl ?_
                  refine call_fn rfl (by rfl) cf29 (need_ hM (b.length) (by omega) (v := (b.length : Nat)) (by omega)) (by simp only [List.map_toArray, List.map_cons, List.map_nil]; rfl) ?_
                  clear hM
                  rintro e w7 ⟨rfl, hM⟩
                  refine ⟨_, rfl, ?_⟩
                  clear hS
                  have hS := hM.swap.none.swap
                  refine ⟨hS, ?_⟩
                  simp only [q0, q9, q1, q2, q3]
                  refine rf 16 (.int .i64 ((nd (b.length + td.length) : Int) - (nd b.length : Int))) hS ?_
                  simp only [q0, q9, q1, q2, q3]
                  refine rf 17 (.int .i64 ((nd (b.length + td.length) : Int) - (nd b.length : Int))) hS ?_
                  simp only [q0, q9, q1, q2, q3]
                  refine reg_done (by kernel_rfl) ?_
                  clear hS hwr1 hwr2
                  have hA : decide ((nd (b.length + td.length) : Int) - (nd b.length : Int) > (ss.m : Int)) = false := decide_eq_false (by have h1 := (more_need ss.H L b.length td.length).1; have h2 := hfit.out; omega)
                  rcases Bool.eq_false_or_eq_true (decide ((nd (b.length + td.length) : Int) - (nd b.length : Int) + 1 ≤ (ss.m : Int))) with hBb | hBb
                  all_goals
                   go_wp2_with (first | (go_at_call 19; (with_reducible refine (free hM hc3.ok (s3.m : Nat) rfl).mono ?_); clear hM; rintro e w3 ⟨rfl, hM⟩) | ((with_reducible refine wpl ?_); (first | (apply al_box (hM := hM); rfl; rfl; (first | (focus (go_simp; done)) | (focus (go_simp; rfl))); clear hM; intro gb w1 hM; dsimp only [Value.cells] at hM) | (apply al_zero (hM := hM); rfl; rfl; (first | exact zero41 | exact zero68); clear hM; intro gz w1 hM; dsimp only [Value.cells] at hM) | (apply ld_row (hM := hM); rfl; rfl; rfl; (repeat first | exact .head _ _ | apply Pick.tail); (first | exact row41 | exact row68)) | (apply st_row (hM := hM); rfl; rfl; rfl; (first | (focus (go_simp; done)) | (focus (go_simp; rfl))); (repeat first | exact .head _ _ | apply Pick.tail); rfl; rfl; (first | exact row41 | exact row68); intro w1 hM1; clear hM; (try simp only [q1, q2, q3] at hM1); (try rw [tab_setInt] at hM1);  have hM := hM1; clear hM1) | (apply ld_one (hM := hM); rfl; rfl; rfl; (repeat first | exact .head _ _ | apply Pick.tail); rfl; (first | exact one3 | exact one39 | exact one22 | exact one9)) | (apply st_cell (hM := hM); rfl; rfl; rfl; (first | (focus (go_simp; done)) | (focus (go_simp; rfl))); (repeat first | exact .head _ _ | apply Pick.tail); simp; rfl; (first | exact one3 | exact one39 | exact one22 | exact one9); intro w1 hM1; clear hM; (try simp only [q1, q2, q3] at hM1); (try rw [tab_setInt] at hM1);  have hM := hM1; clear hM1)); simp only [q0, q9, q1, q2, q3]))
                   refine reg_begin (fun w' => Mem B3 w' [] [⟨gC, #[.slice a3 m3 k3, .int .i64 (nl : Nat)], 41, (0, 0)⟩, ⟨gO, #[.int .i64 ok_, .int .i64 op_, .int .i64 oa_, .int .i64 on_, .slice tb td.length tc], 68, (0, 0)⟩]) (by kernel_rfl) hM (fun wd hMd => ?_)
                   clear hM
                   have hM := hMd
                   clear hMd
                   have hS := (hM.swap.none.swap.sub (.cons (.head _ _) (.cons (.head _ _) (.nil _))))
                   refine rf 0 (.slice (some ⟨ga, 0, none⟩) an ac) hS ?_
                   simp only [q0, q9, q1, q2, q3]
                   refine rf 1 (.int .i64 (i : Nat)) hS ?_
                   simp only [q0, q9, q1, q2, q3]
                   refine rf 2 (.slice (some ⟨gw, 0, none⟩) wn wc) hS ?_
                   simp only [q0, q9, q1, q2, q3]
                   refine rf 3 (.int .i64 (i : Nat)) hS ?_
                   simp only [q0, q9, q1, q2, q3]
                   refine rg_row 4 [.slice a3 m3 k3, .int .i64 (nl : Nat)] rfl (by kernel_rfl) (by kernel_rfl) (by kernel_rfl) (fun _ _ _ h => h) (by rfl) rfl rfl (fun w' h' => h'.at_off (.head _ _) _ (fun q v hq => by rw [Nat.zero_add]; simpa using hq)) row41 hS ?_
                   simp only [q0, q9, q1, q2, q3]
                   refine rf 5 (.slice (some ⟨gw, 0, none⟩) wn wc) hS ?_
                   simp only [q0, q9, q1, q2, q3]
                   refine rf 6 (.int .i64 (i : Nat)) hS ?_
                   simp only [q0, q9, q1, q2, q3]
                   refine rf 7 (.pointer (some ⟨gw, i, none⟩)) hS ?_
                   simp only [q0, q9, q1, q2, q3]
                   refine rf 9 (.pointer (some ⟨gO, 4, none⟩)) hS ?_
                   simp only [q0, q9, q1, q2, q3]
                   refine rg_one 10 (v := .slice tb td.length tc) rfl (by kernel_rfl) (by kernel_rfl) (by kernel_rfl) (fun _ _ _ h => h) (by rfl) rfl rfl (fun w' h' => (h'.cell (.tail (.head _ _)) 4).trans rfl) one22 hS ?_
                   simp only [q0, q9, q1, q2, q3]
                   refine rg_cv 11 (bs := td) rfl (by kernel_rfl) (by kernel_rfl) (by kernel_rfl) (fun _ _ _ h => h) (by rfl) rfl und22 und5 und9 (fun w' h' => hbt.came ((hle.trans hl3).mem h')) hS ?_
                   simp only [q0, q9, q1, q2, q3]
                   refine reg_step 8 (by kernel_rfl) rfl ?_
                   apply ld_one (hM := hM); rfl; rfl; rfl; exact (.tail (.tail (.tail (.head _ _)))); exact helw.out; exact one9
                   refine ⟨hS, ?_⟩
                   simp only [q0, q9, q1, q2, q3]
                   refine rv 12 (.string ⟨(b ++ td).toArray⟩) hS (fun w => run_add_op rfl rfl rfl (by omega) w) ?_
                   simp only [q0, q9, q1, q2, q3]
                   refine rf 13 (.pointer (some ⟨ga, i * 2, none⟩)) hS ?_
                   simp only [q0, q9, q1, q2, q3]
                   refine reg_step 14 (by kernel_rfl) rfl ?_
                   apply st_at (hM := hM); rfl; rfl; rfl; rfl; exact (.tail (.tail (.head _ _))); (rw [hca.out]; simp only [List.size_toArray, List.length_cons, List.length_nil]; omega); rfl; exact row41
                   clear hM
                   intro w8 hM
                   clear hS
                   have hS := hM.tail.swap.none.swap.sub (.cons (.head _ _) (.cons (.head _ _) (.nil _)))
                   refine ⟨hS, ?_⟩
                   simp only [q0, q9, q1, q2, q3]
                   refine rf 15 (.pointer (some ⟨gw, i, none⟩)) hS ?_
                   simp only [q0, q9, q1, q2, q3]
                   refine reg_step 16 (by kernel_rfl) rfl ?_
                   apply st_cell (hM := hM); rfl; rfl; rfl; rfl; exact (.tail (.tail (.tail (.head _ _)))); (have := hcw.out; omega); rfl; exact one9
                   clear hM
                   intro w8 hM
                   clear hS
                   have hS := hM.tail.tail.swap.none.swap
                   refine ⟨hS, ?_⟩
                   simp only [q0, q9, q1, q2, q3]
                   refine reg_done (by kernel_rfl) ?_
                   clear hS
                   go_wp2_with ((with_reducible refine wpl ?_); (first | (apply al_box (hM := hM); rfl; rfl; (first | (focus (go_simp; done)) | (focus (go_simp; rfl))); clear hM; intro gb w1 hM; dsimp only [Value.cells] at hM) | (apply al_zero (hM := hM); rfl; rfl; (first | exact zero41 | exact zero68); clear hM; intro gz w1 hM; dsimp only [Value.cells] at hM) | (apply ld_row (hM := hM); rfl; rfl; rfl; (repeat first | exact .head _ _ | apply Pick.tail); (first | exact row41 | exact row68)) | (apply st_row (hM := hM); rfl; rfl; rfl; (first | (focus (go_simp; done)) | (focus (go_simp; rfl))); (repeat first | exact .head _ _ | apply Pick.tail); rfl; rfl; (first | exact row41 | exact row68); intro w1 hM1; clear hM; (try simp only [q1, q2, q3] at hM1); (try rw [tab_setInt] at hM1);  have hM := hM1; clear hM1) | (apply ld_one (hM := hM); rfl; rfl; rfl; (repeat first | exact .head _ _ | apply Pick.tail); rfl; (first | exact one3 | exact one39 | exact one22 | exact one9)) | (apply st_cell (hM := hM); rfl; rfl; rfl; (first | (focus (go_simp; done)) | (focus (go_simp; rfl))); (repeat first | exact .head _ _ | apply Pick.tail); simp; rfl; (first | exact one3 | exact one39 | exact one22 | exact one9); intro w1 hM1; clear hM; (try simp only [q1, q2, q3] at hM1); (try rw [tab_setInt] at hM1);  have hM := hM1; clear hM1)); simp only [q0, q9, q1, q2, q3])
                   have hcsz : i < cw.size := by have := hcw.out; omega
                   have hTa2 := tb_set (f := ctc) (t := 41) (k := 2) (g := ga) (x := ⟨.slice a3 m3 k3, L3, b ++ td⟩) (fun _ => rfl) hca.out hacl han.out hcea.out hian
                   have hTw2 := tb_set (f := cws) (t := 9) (k := 1) (g := gw) (x := ⟨.slice a3 m3 k3, L3, b ++ td⟩) (fun _ => rfl) hcw.out hwcl hwn.out hcew.out hiwn
                   have hMa := hM.perm (List.Perm.swap _ _ _)
                   clear hM
                   have e1 : ctc ⟨.slice a3 m3 k3, L3, b ++ td⟩ = [.slice a3 m3 k3, .int .i64 (nl : Nat)] := by
                    unfold ctc
                    simp only [List.length_append]
                    rw [hnl.out]
                   rw [e1] at hTa2
                   have e2 : lay cw (i * 1) (cws ⟨.slice a3 m3 k3, L3, b ++ td⟩) = cw.setIfInBounds i (.string ⟨(b ++ td).toArray⟩) := lay_one hcsz
                   rw [e2] at hTw2
                   have hsp := set_perm hics (⟨.slice a3 m3 k3, L3, b ++ td⟩ : Ct)
                   go_roundw
                   case rel =>
                    refine ⟨j + 1, s3, B3, cs.set i ⟨.slice a3 m3 k3, L3, b ++ td⟩, _, _, _, _, by omega, by go_num, rfl, rfl, hle.trans hl3, hc3.perm hsp.symm, hI3.perm hsp.symm, hid_ (by rw [List.length_set]; have := hjl.out; omega), hid_ (fun d hd => ?_), hTa2, hTw2, hMa.sub (.cons (.head _ _) (.cons (.head _ _) (.nil _)))⟩
                    rcases List.mem_or_eq_of_mem_set hd with hd | rfl
                    · have := hdl.out d hd; omega
                    · simp only [List.length_append]; omega
                   case measure => simp [intOf]; omega
               · as_aux_lemma =>
                  apply al_zero (hM := hM); rfl; rfl; exact zero41
                  intro gC w5 hM1
                  clear hM
                  dsimp only [Value.cells] at hM1
                  have hM := hM1
                  clear hM1
                  clear hS
                  have hS : Mem B w5 [] [⟨gO, #[.int .i64 ok_, .int .i64 op_, .int .i64 oa_, .int .i64 on_, .slice tb td.length tc], 68, (0, 0)⟩, ⟨ga, ca, 41, (0, 0)⟩, ⟨gw, cw, 9, (0, 0)⟩] := hM.tail.swap.none.swap
                  refine ⟨hS, ?_⟩
                  simp only [q0, q9, q1, q2, q3]
                  refine reg_step 7 (by kernel_rfl) rfl ?_
                  refine call_fn rfl (by rfl) cf22 (cappend (c := ⟨.slice xa L.length xk, L, b⟩) (b' := b ++ td) (v := (b.length : Nat)) (v' := (nl : Nat)) hM hc1 hI1 hbk (by simp only; omega) hfit.out rfl rfl (by rw [hnl.out, List.length_append])) (by simp only [List.map_toArray, List.map_cons, List.map_nil]; rfl) ?_
                  clear hM
                  rintro e w4 ⟨s3, a3, m3, k3, L3, B3, rfl, hl3, hM, hc3, hI3, hf3, ho3⟩
                  clear ho3 hf3
                  refine ⟨_, rfl, ?_⟩
                  clear hS
                  have hS : Mem B w4 [] [⟨gO, #[.int .i64 ok_, .int .i64 op_, .int .i64 oa_, .int .i64 on_, .slice tb td.length tc], 68, (0, 0)⟩, ⟨ga, ca, 41, (0, 0)⟩, ⟨gw, cw, 9, (0, 0)⟩] := (hl3.mem hM).tail.swap.none.swap
                  refine ⟨hS, ?_⟩
                  simp only [q0, q9, q1, q2, q3]
                  refine rf 8 (.tuple #[.agg #[.slice a3 m3 k3, .int .i64 (nl : Nat)], .int .i64 0]) hS ?_
                  simp only [q0, q9, q1, q2, q3]
                  refine rf 9 (.agg #[.slice a3 m3 k3, .int .i64 (nl : Nat)]) hS ?_
                  simp only [q0, q9, q1, q2, q3]
                  refine rf 10 (.int .i64 0) hS ?_
                  simp only [q0, q9, q1, q2, q3]
                  refine reg_step 12 (by kernel_rfl) rfl ?_
                  apply st_row (hM := hM); rfl; rfl; rfl; (first | (focus (go_simp; done)) | (focus (go_simp; rfl))); (repeat first | exact .head _ _ | apply Pick.tail); rfl; rfl; exact row41
                  clear hM
                  intro w6 hM
                  clear hS
                  have hS : Mem B w6 [] [⟨gO, #[.int .i64 ok_, .int .i64 op_, .int .i64 oa_, .int .i64 on_, .slice tb td.length tc], 68, (0, 0)⟩, ⟨ga, ca, 41, (0, 0)⟩, ⟨gw, cw, 9, (0, 0)⟩] := (hl3.mem hM.tail).swap.none.swap
                  refine ⟨hS, ?_⟩
                  simp only [q0, q9, q1, q2, q3]
                  refine rf 13 (.int .i64 0) hS ?_
                  simp only [q0, q9, q1, q2, q3]
                  refine reg_done (by kernel_rfl) ?_
                  clear hS
                  go_wp2_with ((with_reducible refine wpl ?_); (first | (apply al_box (hM := hM); rfl; rfl; (first | (focus (go_simp; done)) | (focus (go_simp; rfl))); clear hM; intro gb w1 hM; dsimp only [Value.cells] at hM) | (apply al_zero (hM := hM); rfl; rfl; (first | exact zero41 | exact zero68); clear hM; intro gz w1 hM; dsimp only [Value.cells] at hM) | (apply ld_row (hM := hM); rfl; rfl; rfl; (repeat first | exact .head _ _ | apply Pick.tail); (first | exact row41 | exact row68)) | (apply st_row (hM := hM); rfl; rfl; rfl; (first | (focus (go_simp; done)) | (focus (go_simp; rfl))); (repeat first | exact .head _ _ | apply Pick.tail); rfl; rfl; (first | exact row41 | exact row68); intro w1 hM1; clear hM; (try simp only [q1, q2, q3] at hM1); (try rw [tab_setInt] at hM1);  have hM := hM1; clear hM1) | (apply ld_one (hM := hM); rfl; rfl; rfl; (repeat first | exact .head _ _ | apply Pick.tail); rfl; (first | exact one3 | exact one39 | exact one22 | exact one9)) | (apply st_cell (hM := hM); rfl; rfl; rfl; (first | (focus (go_simp; done)) | (focus (go_simp; rfl))); (repeat first | exact .head _ _ | apply Pick.tail); simp; rfl; (first | exact one3 | exact one39 | exact one22 | exact one9); intro w1 hM1; clear hM; (try simp only [q1, q2, q3] at hM1); (try rw [tab_setInt] at hM1);  have hM := hM1; clear hM1)); simp only [q0, q9, q1, q2, q3])
                  have hwr1 : IntKind.i64.wrap ((b.length : Int) + td.length) = (b.length : Int) + td.length := IntWalk.i64_in _ (by omega)
                  have hnd1 : (nd (b.length + td.length) : Int) ≤ 1000000 := by unfold nd; omega
                  have hnd2 : (nd b.length : Int) ≤ 1000000 := by unfold nd; omega
                  have hwr2 : IntKind.i64.wrap ((nd (b.length + td.length) : Int) - (nd b.length : Int)) = (nd (b.length + td.length) : Int) - (nd b.length : Int) := IntWalk.i64_in _ (by omega)
                  refine reg_begin (fun w' => Mem B3 w' [] [⟨gC, #[.slice a3 m3 k3, .int .i64 (nl : Nat)], 41, (0, 0)⟩, ⟨gO, #[.int .i64 ok_, .int .i64 op_, .int .i64 oa_, .int .i64 on_, .slice tb td.length tc], 68, (0, 0)⟩, ⟨ga, ca, 41, (0, 0)⟩, ⟨gw, cw, 9, (0, 0)⟩]) (by kernel_rfl) hM (fun wd hMd => ?_)
                  clear hM
                  have hM := hMd
                  clear hMd
                  have hS := hM.swap.none.swap
                  refine rf 0 (.slice (some ⟨gw, 0, none⟩) wn wc) hS ?_
                  simp only [q0, q9, q1, q2, q3]
                  refine rf 1 (.int .i64 (i : Nat)) hS ?_
                  simp only [q0, q9, q1, q2, q3]
                  refine rf 2 (.pointer (some ⟨gw, i, none⟩)) hS ?_
                  simp only [q0, q9, q1, q2, q3]
                  refine rg_one 3 (v := .string ⟨b.toArray⟩) rfl (by kernel_rfl) (by kernel_rfl) (by kernel_rfl) (fun _ _ _ h => h) (by rfl) rfl rfl (fun w' h' => (h'.cell (.tail (.tail (.tail (.head _ _)))) i).trans helw.out) one9 hS ?_
                  simp only [q0, q9, q1, q2, q3]
                  refine rf 4 (.int .i64 (b.length : Nat)) hS ?_
                  simp only [q0, q9, q1, q2, q3]
                  refine rf 5 (.pointer (some ⟨gO, 4, none⟩)) hS ?_
                  simp only [q0, q9, q1, q2, q3]
                  refine rg_one 6 (v := .slice tb td.length tc) rfl (by kernel_rfl) (by kernel_rfl) (by kernel_rfl) (fun _ _ _ h => h) (by rfl) rfl rfl (fun w' h' => (h'.cell (.tail (.head _ _)) 4).trans rfl) one22 hS ?_
                  simp only [q0, q9, q1, q2, q3]
                  refine rf 7 (.int .i64 (td.length : Nat)) hS ?_
                  simp only [q0, q9, q1, q2, q3]
                  refine rf 8 (.int .i64 ((b.length : Int) + td.length)) hS ?_
                  simp only [q0, q9, q1, q2, q3]
                  refine rf 10 (.slice (some ⟨gw, 0, none⟩) wn wc) hS ?_
                  simp only [q0, q9, q1, q2, q3]
                  refine rf 11 (.int .i64 (i : Nat)) hS ?_
                  simp only [q0, q9, q1, q2, q3]
                  refine rf 12 (.pointer (some ⟨gw, i, none⟩)) hS ?_
                  simp only [q0, q9, q1, q2, q3]
                  refine rg_one 13 (v := .string ⟨b.toArray⟩) rfl (by kernel_rfl) (by kernel_rfl) (by kernel_rfl) (fun _ _ _ h => h) (by rfl) rfl rfl (fun w' h' => (h'.cell (.tail (.tail (.tail (.head _ _)))) i).trans helw.out) one9 hS ?_
                  simp only [q0, q9, q1, q2, q3]
                  refine rf 14 (.int .i64 (b.length : Nat)) hS ?_
                  simp only [q0, q9, q1, q2, q3]
                  refine reg_step 9 (by kernel_rfl) rfl ?_
                  refine call_fn rfl (by rfl) cf29 (need_ hM (b.length + td.length) (by omega) (v := (b.length : Int) + td.length) (by omega)) (by simp only [List.map_toArray, List.map_cons, List.map_nil]; rfl) ?_
                  clear hM
                  rintro e w7 ⟨rfl, hM⟩
                  refine ⟨_, rfl, ?_⟩
                  clear hS
                  have hS := hM.swap.none.swap
                  refine ⟨hS, ?_⟩
                  simp only [q0, q9, q1, q2, q3]
                  refine reg_step 15 (by kernel_rfl) rfl ?_
                  refine call_fn rfl (by rfl) cf29 (need_ hM (b.length) (by omega) (v := (b.length : Nat)) (by omega)) (by simp only [List.map_toArray, List.map_cons, List.map_nil]; rfl) ?_
                  clear hM
                  rintro e w7 ⟨rfl, hM⟩
                  refine ⟨_, rfl, ?_⟩
                  clear hS
                  have hS := hM.swap.none.swap
                  refine ⟨hS, ?_⟩
                  simp only [q0, q9, q1, q2, q3]
                  refine rf 16 (.int .i64 ((nd (b.length + td.length) : Int) - (nd b.length : Int))) hS ?_
                  simp only [q0, q9, q1, q2, q3]
                  refine rf 17 (.int .i64 ((nd (b.length + td.length) : Int) - (nd b.length : Int))) hS ?_
                  simp only [q0, q9, q1, q2, q3]
                  refine reg_done (by kernel_rfl) ?_
                  clear hS hwr1 hwr2
                  have hA : decide ((nd (b.length + td.length) : Int) - (nd b.length : Int) > (ss.m : Int)) = false := decide_eq_false (by have h1 := (more_need ss.H L b.length td.length).1; have h2 := hfit.out; omega)
                  rcases Bool.eq_false_or_eq_true (decide ((nd (b.length + td.length) : Int) - (nd b.length : Int) + 1 ≤ (ss.m : Int))) with hBb | hBb
                  all_goals
                   go_wp2_with (first | (go_at_call 19; (with_reducible refine (free hM hc3.ok (s3.m : Nat) rfl).mono ?_); clear hM; rintro e w3 ⟨rfl, hM⟩) | ((with_reducible refine wpl ?_); (first | (apply al_box (hM := hM); rfl; rfl; (first | (focus (go_simp; done)) | (focus (go_simp; rfl))); clear hM; intro gb w1 hM; dsimp only [Value.cells] at hM) | (apply al_zero (hM := hM); rfl; rfl; (first | exact zero41 | exact zero68); clear hM; intro gz w1 hM; dsimp only [Value.cells] at hM) | (apply ld_row (hM := hM); rfl; rfl; rfl; (repeat first | exact .head _ _ | apply Pick.tail); (first | exact row41 | exact row68)) | (apply st_row (hM := hM); rfl; rfl; rfl; (first | (focus (go_simp; done)) | (focus (go_simp; rfl))); (repeat first | exact .head _ _ | apply Pick.tail); rfl; rfl; (first | exact row41 | exact row68); intro w1 hM1; clear hM; (try simp only [q1, q2, q3] at hM1); (try rw [tab_setInt] at hM1);  have hM := hM1; clear hM1) | (apply ld_one (hM := hM); rfl; rfl; rfl; (repeat first | exact .head _ _ | apply Pick.tail); rfl; (first | exact one3 | exact one39 | exact one22 | exact one9)) | (apply st_cell (hM := hM); rfl; rfl; rfl; (first | (focus (go_simp; done)) | (focus (go_simp; rfl))); (repeat first | exact .head _ _ | apply Pick.tail); simp; rfl; (first | exact one3 | exact one39 | exact one22 | exact one9); intro w1 hM1; clear hM; (try simp only [q1, q2, q3] at hM1); (try rw [tab_setInt] at hM1);  have hM := hM1; clear hM1)); simp only [q0, q9, q1, q2, q3]))
                   refine reg_begin (fun w' => Mem B3 w' [] [⟨gC, #[.slice a3 m3 k3, .int .i64 (nl : Nat)], 41, (0, 0)⟩, ⟨gO, #[.int .i64 ok_, .int .i64 op_, .int .i64 oa_, .int .i64 on_, .slice tb td.length tc], 68, (0, 0)⟩]) (by kernel_rfl) hM (fun wd hMd => ?_)
                   clear hM
                   have hM := hMd
                   clear hMd
                   have hS := (hM.swap.none.swap.sub (.cons (.head _ _) (.cons (.head _ _) (.nil _))))
                   refine rf 0 (.slice (some ⟨ga, 0, none⟩) an ac) hS ?_
                   simp only [q0, q9, q1, q2, q3]
                   refine rf 1 (.int .i64 (i : Nat)) hS ?_
                   simp only [q0, q9, q1, q2, q3]
                   refine rf 2 (.slice (some ⟨gw, 0, none⟩) wn wc) hS ?_
                   simp only [q0, q9, q1, q2, q3]
                   refine rf 3 (.int .i64 (i : Nat)) hS ?_
                   simp only [q0, q9, q1, q2, q3]
                   refine rg_row 4 [.slice a3 m3 k3, .int .i64 (nl : Nat)] rfl (by kernel_rfl) (by kernel_rfl) (by kernel_rfl) (fun _ _ _ h => h) (by rfl) rfl rfl (fun w' h' => h'.at_off (.head _ _) _ (fun q v hq => by rw [Nat.zero_add]; simpa using hq)) row41 hS ?_
                   simp only [q0, q9, q1, q2, q3]
                   refine rf 5 (.slice (some ⟨gw, 0, none⟩) wn wc) hS ?_
                   simp only [q0, q9, q1, q2, q3]
                   refine rf 6 (.int .i64 (i : Nat)) hS ?_
                   simp only [q0, q9, q1, q2, q3]
                   refine rf 7 (.pointer (some ⟨gw, i, none⟩)) hS ?_
                   simp only [q0, q9, q1, q2, q3]
                   refine rf 9 (.pointer (some ⟨gO, 4, none⟩)) hS ?_
                   simp only [q0, q9, q1, q2, q3]
                   refine rg_one 10 (v := .slice tb td.length tc) rfl (by kernel_rfl) (by kernel_rfl) (by kernel_rfl) (fun _ _ _ h => h) (by rfl) rfl rfl (fun w' h' => (h'.cell (.tail (.head _ _)) 4).trans rfl) one22 hS ?_
                   simp only [q0, q9, q1, q2, q3]
                   refine rg_cv 11 (bs := td) rfl (by kernel_rfl) (by kernel_rfl) (by kernel_rfl) (fun _ _ _ h => h) (by rfl) rfl und22 und5 und9 (fun w' h' => hbt.came ((hle.trans hl3).mem h')) hS ?_
                   simp only [q0, q9, q1, q2, q3]
                   refine reg_step 8 (by kernel_rfl) rfl ?_
                   apply ld_one (hM := hM); rfl; rfl; rfl; exact (.tail (.tail (.tail (.head _ _)))); exact helw.out; exact one9
                   refine ⟨hS, ?_⟩
                   simp only [q0, q9, q1, q2, q3]
                   refine rv 12 (.string ⟨(b ++ td).toArray⟩) hS (fun w => run_add_op rfl rfl rfl (by omega) w) ?_
                   simp only [q0, q9, q1, q2, q3]
                   refine rf 13 (.pointer (some ⟨ga, i * 2, none⟩)) hS ?_
                   simp only [q0, q9, q1, q2, q3]
                   refine reg_step 14 (by kernel_rfl) rfl ?_
                   apply st_at (hM := hM); rfl; rfl; rfl; rfl; exact (.tail (.tail (.head _ _))); (rw [hca.out]; simp only [List.size_toArray, List.length_cons, List.length_nil]; omega); rfl; exact row41
                   clear hM
                   intro w8 hM
                   clear hS
                   have hS := hM.tail.swap.none.swap.sub (.cons (.head _ _) (.cons (.head _ _) (.nil _)))
                   refine ⟨hS, ?_⟩
                   simp only [q0, q9, q1, q2, q3]
                   refine rf 15 (.pointer (some ⟨gw, i, none⟩)) hS ?_
                   simp only [q0, q9, q1, q2, q3]
                   refine reg_step 16 (by kernel_rfl) rfl ?_
                   apply st_cell (hM := hM); rfl; rfl; rfl; rfl; exact (.tail (.tail (.tail (.head _ _)))); (have := hcw.out; omega); rfl; exact one9
                   clear hM
                   intro w8 hM
                   clear hS
                   have hS := hM.tail.tail.swap.none.swap
                   refine ⟨hS, ?_⟩
                   simp only [q0, q9, q1, q2, q3]
                   refine reg_done (by kernel_rfl) ?_
                   clear hS
                   go_wp2_with ((with_reducible refine wpl ?_); (first | (apply al_box (hM := hM); rfl; rfl; (first | (focus (go_simp; done)) | (focus (go_simp; rfl))); clear hM; intro gb w1 hM; dsimp only [Value.cells] at hM) | (apply al_zero (hM := hM); rfl; rfl; (first | exact zero41 | exact zero68); clear hM; intro gz w1 hM; dsimp only [Value.cells] at hM) | (apply ld_row (hM := hM); rfl; rfl; rfl; (repeat first | exact .head _ _ | apply Pick.tail); (first | exact row41 | exact row68)) | (apply st_row (hM := hM); rfl; rfl; rfl; (first | (focus (go_simp; done)) | (focus (go_simp; rfl))); (repeat first | exact .head _ _ | apply Pick.tail); rfl; rfl; (first | exact row41 | exact row68); intro w1 hM1; clear hM; (try simp only [q1, q2, q3] at hM1); (try rw [tab_setInt] at hM1);  have hM := hM1; clear hM1) | (apply ld_one (hM := hM); rfl; rfl; rfl; (repeat first | exact .head _ _ | apply Pick.tail); rfl; (first | exact one3 | exact one39 | exact one22 | exact one9)) | (apply st_cell (hM := hM); rfl; rfl; rfl; (first | (focus (go_simp; done)) | (focus (go_simp; rfl))); (repeat first | exact .head _ _ | apply Pick.tail); simp; rfl; (first | exact one3 | exact one39 | exact one22 | exact one9); intro w1 hM1; clear hM; (try simp only [q1, q2, q3] at hM1); (try rw [tab_setInt] at hM1);  have hM := hM1; clear hM1)); simp only [q0, q9, q1, q2, q3])
                   have hcsz : i < cw.size := by have := hcw.out; omega
                   have hTa2 := tb_set (f := ctc) (t := 41) (k := 2) (g := ga) (x := ⟨.slice a3 m3 k3, L3, b ++ td⟩) (fun _ => rfl) hca.out hacl han.out hcea.out hian
                   have hTw2 := tb_set (f := cws) (t := 9) (k := 1) (g := gw) (x := ⟨.slice a3 m3 k3, L3, b ++ td⟩) (fun _ => rfl) hcw.out hwcl hwn.out hcew.out hiwn
                   have hMa := hM.perm (List.Perm.swap _ _ _)
                   clear hM
                   have e1 : ctc ⟨.slice a3 m3 k3, L3, b ++ td⟩ = [.slice a3 m3 k3, .int .i64 (nl : Nat)] := by
                    unfold ctc
                    simp only [List.length_append]
                    rw [hnl.out]
                   rw [e1] at hTa2
                   have e2 : lay cw (i * 1) (cws ⟨.slice a3 m3 k3, L3, b ++ td⟩) = cw.setIfInBounds i (.string ⟨(b ++ td).toArray⟩) := lay_one hcsz
                   rw [e2] at hTw2
                   have hsp := set_perm hics (⟨.slice a3 m3 k3, L3, b ++ td⟩ : Ct)
                   go_roundw
                   case rel =>
                    refine ⟨j + 1, s3, B3, cs.set i ⟨.slice a3 m3 k3, L3, b ++ td⟩, _, _, _, _, by omega, by go_num, rfl, rfl, hle.trans hl3, hc3.perm hsp.symm, hI3.perm hsp.symm, hid_ (by rw [List.length_set]; have := hjl.out; omega), hid_ (fun d hd => ?_), hTa2, hTw2, hMa.sub (.cons (.head _ _) (.cons (.head _ _) (.nil _)))⟩
                    rcases List.mem_or_eq_of_mem_set hd with hd | rfl
                    · have := hdl.out d hd; omega
                    · simp only [List.length_append]; omega
                   case measure => simp [intOf]; omega
            · have hfit := hid_ (show ss.m < more ss.H L b.length td.length by omega)
              as_aux_lemma =>
               have hbk : BsAt B (.slice tb td.length tc) td := fun w' fr' l' h' => hbt.came (hle.mem h')
               obtain ⟨nl, hnl⟩ : ∃ nl, Hid (nl = b.length + td.length) := ⟨_, hid_ rfl⟩
               go_wp2_with ((with_reducible refine wpl ?_); (first | (apply al_box (hM := hM); rfl; rfl; (first | (focus (go_simp; done)) | (focus (go_simp; rfl))); clear hM; intro gb w1 hM; dsimp only [Value.cells] at hM) | (apply al_zero (hM := hM); rfl; rfl; (first | exact zero41 | exact zero68); clear hM; intro gz w1 hM; dsimp only [Value.cells] at hM) | (apply ld_row (hM := hM); rfl; rfl; rfl; (repeat first | exact .head _ _ | apply Pick.tail); (first | exact row41 | exact row68)) | (apply st_row (hM := hM); rfl; rfl; rfl; (first | (focus (go_simp; done)) | (focus (go_simp; rfl))); (repeat first | exact .head _ _ | apply Pick.tail); rfl; rfl; (first | exact row41 | exact row68); intro w1 hM1; clear hM; (try simp only [q1, q2, q3] at hM1); (try rw [tab_setInt] at hM1);  have hM := hM1; clear hM1) | (apply ld_one (hM := hM); rfl; rfl; rfl; (repeat first | exact .head _ _ | apply Pick.tail); rfl; (first | exact one3 | exact one39 | exact one22 | exact one9)) | (apply st_cell (hM := hM); rfl; rfl; rfl; (first | (focus (go_simp; done)) | (focus (go_simp; rfl))); (repeat first | exact .head _ _ | apply Pick.tail); simp; rfl; (first | exact one3 | exact one39 | exact one22 | exact one9); intro w1 hM1; clear hM; (try simp only [q1, q2, q3] at hM1); (try rw [tab_setInt] at hM1);  have hM := hM1; clear hM1)); simp only [q0, q9, q1, q2, q3])
               refine reg_begin (fun w' => Mem B w' [] [⟨gO, #[.int .i64 ok_, .int .i64 op_, .int .i64 oa_, .int .i64 on_, .slice tb td.length tc], 68, (0, 0)⟩, ⟨ga, ca, 41, (0, 0)⟩, ⟨gw, cw, 9, (0, 0)⟩]) (by kernel_rfl) hM (fun wd hMd => ?_)
               clear hM
               have hM := hMd
               clear hMd
               have hS := hM.swap.none.swap
               refine rf 0 (own p) hS ?_
               simp only [q0, q9, q1, q2, q3]
               refine rf 1 (.slice (some ⟨ga, 0, none⟩) an ac) hS ?_
               simp only [q0, q9, q1, q2, q3]
               refine rf 2 (.int .i64 (i : Nat)) hS ?_
               simp only [q0, q9, q1, q2, q3]
               refine rf 3 (.pointer (some ⟨ga, i * 2, none⟩)) hS ?_
               simp only [q0, q9, q1, q2, q3]
               refine rg_row 4 [.slice xa L.length xk, .int .i64 (b.length : Nat)] rfl (by kernel_rfl) (by kernel_rfl) (by kernel_rfl) (fun _ _ _ h => h) (by rfl) rfl rfl (fun w' h' => h'.at_off (.tail (.head _ _)) _ hela.out) row41 hS ?_
               simp only [q0, q9, q1, q2, q3]
               refine rf 5 (.pointer (some ⟨gO, 4, none⟩)) hS ?_
               simp only [q0, q9, q1, q2, q3]
               refine rg_one 6 (v := .slice tb td.length tc) rfl (by kernel_rfl) (by kernel_rfl) (by kernel_rfl) (fun _ _ _ h => h) (by rfl) rfl rfl (fun w' h' => (h'.cell (.head _ _) 4).trans rfl) one22 hS ?_
               simp only [q0, q9, q1, q2, q3]
               refine reg_two 7 11 (by kernel_rfl) rfl rfl ?_ ?_
               · as_aux_lemma =>
                  refine call_fn rfl (by rfl) cf22 (cappend_full (c := ⟨.slice xa L.length xk, L, b⟩) (v := (b.length : Nat)) hM hc1 hI1 hbk (by simp only; omega) hfit.out rfl) (by simp only [List.map_toArray, List.map_cons, List.map_nil]; rfl) ?_
                  clear hM
                  rintro e w4 ⟨rfl, hM⟩
                  refine ⟨_, rfl, ?_⟩
                  clear hS
                  have hS : Mem B w4 [] [⟨gO, #[.int .i64 ok_, .int .i64 op_, .int .i64 oa_, .int .i64 on_, .slice tb td.length tc], 68, (0, 0)⟩, ⟨ga, ca, 41, (0, 0)⟩, ⟨gw, cw, 9, (0, 0)⟩] := hM.swap.none.swap
                  refine ⟨hS, ?_⟩
                  simp only [q0, q9, q1, q2, q3]
                  refine rf 8 (.tuple #[.agg #[.slice xa L.length xk, .int .i64 (b.length : Nat)], .int .i64 3]) hS ?_
                  simp only [q0, q9, q1, q2, q3]
                  refine rf 9 (.agg #[.slice xa L.length xk, .int .i64 (b.length : Nat)]) hS ?_
                  simp only [q0, q9, q1, q2, q3]
                  refine rf 10 (.int .i64 3) hS ?_
                  simp only [q0, q9, q1, q2, q3]
                  refine reg_step 11 (by kernel_rfl) rfl ?_
                  apply al_zero (hM := hM); rfl; rfl; exact zero41
                  intro gC w5 hM1
                  clear hM
                  dsimp only [Value.cells] at hM1
                  have hM := hM1
                  clear hM1
                  clear hS
                  have hS : Mem B w5 [] [⟨gO, #[.int .i64 ok_, .int .i64 op_, .int .i64 oa_, .int .i64 on_, .slice tb td.length tc], 68, (0, 0)⟩, ⟨ga, ca, 41, (0, 0)⟩, ⟨gw, cw, 9, (0, 0)⟩] := hM.tail.swap.none.swap
                  refine ⟨hS, ?_⟩
                  simp only [q0, q9, q1, q2, q3]
                  refine reg_step 12 (by kernel_rfl) rfl ?_
                  apply st_row (hM := hM); rfl; rfl; rfl; (first | (focus (go_simp; done)) | (focus (go_simp; rfl))); (repeat first | exact .head _ _ | apply Pick.tail); rfl; rfl; exact row41
                  clear hM
                  intro w6 hM
                  clear hS
                  have hS : Mem B w6 [] [⟨gO, #[.int .i64 ok_, .int .i64 op_, .int .i64 oa_, .int .i64 on_, .slice tb td.length tc], 68, (0, 0)⟩, ⟨ga, ca, 41, (0, 0)⟩, ⟨gw, cw, 9, (0, 0)⟩] := hM.tail.swap.none.swap
                  refine ⟨hS, ?_⟩
                  simp only [q0, q9, q1, q2, q3]
                  refine rf 13 (.int .i64 3) hS ?_
                  simp only [q0, q9, q1, q2, q3]
                  refine reg_done (by kernel_rfl) ?_
                  clear hS
                  go_wp2_with ((with_reducible refine wpl ?_); (first | (apply al_box (hM := hM); rfl; rfl; (first | (focus (go_simp; done)) | (focus (go_simp; rfl))); clear hM; intro gb w1 hM; dsimp only [Value.cells] at hM) | (apply al_zero (hM := hM); rfl; rfl; (first | exact zero41 | exact zero68); clear hM; intro gz w1 hM; dsimp only [Value.cells] at hM) | (apply ld_row (hM := hM); rfl; rfl; rfl; (repeat first | exact .head _ _ | apply Pick.tail); (first | exact row41 | exact row68)) | (apply st_row (hM := hM); rfl; rfl; rfl; (first | (focus (go_simp; done)) | (focus (go_simp; rfl))); (repeat first | exact .head _ _ | apply Pick.tail); rfl; rfl; (first | exact row41 | exact row68); intro w1 hM1; clear hM; (try simp only [q1, q2, q3] at hM1); (try rw [tab_setInt] at hM1);  have hM := hM1; clear hM1) | (apply ld_one (hM := hM); rfl; rfl; rfl; (repeat first | exact .head _ _ | apply Pick.tail); rfl; (first | exact one3 | exact one39 | exact one22 | exact one9)) | (apply st_cell (hM := hM); rfl; rfl; rfl; (first | (focus (go_simp; done)) | (focus (go_simp; rfl))); (repeat first | exact .head _ _ | apply Pick.tail); simp; rfl; (first | exact one3 | exact one39 | exact one22 | exact one9); intro w1 hM1; clear hM; (try simp only [q1, q2, q3] at hM1); (try rw [tab_setInt] at hM1);  have hM := hM1; clear hM1)); simp only [q0, q9, q1, q2, q3])
                  have hwr1 : IntKind.i64.wrap ((b.length : Int) + td.length) = (b.length : Int) + td.length := IntWalk.i64_in _ (by omega)
                  have hnd1 : (nd (b.length + td.length) : Int) ≤ 1000000 := by unfold nd; omega
                  have hnd2 : (nd b.length : Int) ≤ 1000000 := by unfold nd; omega
                  have hwr2 : IntKind.i64.wrap ((nd (b.length + td.length) : Int) - (nd b.length : Int)) = (nd (b.length + td.length) : Int) - (nd b.length : Int) := IntWalk.i64_in _ (by omega)
                  refine reg_begin (fun w' => Mem B w' [] [⟨gC, #[.slice xa L.length xk, .int .i64 (b.length : Nat)], 41, (0, 0)⟩, ⟨gO, #[.int .i64 ok_, .int .i64 op_, .int .i64 oa_, .int .i64 on_, .slice tb td.length tc], 68, (0, 0)⟩, ⟨ga, ca, 41, (0, 0)⟩, ⟨gw, cw, 9, (0, 0)⟩]) (by kernel_rfl) hM (fun wd hMd => ?_)
                  clear hM
                  have hM := hMd
                  clear hMd
                  have hS := hM.swap.none.swap
                  refine rf 0 (.slice (some ⟨gw, 0, none⟩) wn wc) hS ?_
                  simp only [q0, q9, q1, q2, q3]
                  refine rf 1 (.int .i64 (i : Nat)) hS ?_
                  simp only [q0, q9, q1, q2, q3]
                  refine rf 2 (.pointer (some ⟨gw, i, none⟩)) hS ?_
                  simp only [q0, q9, q1, q2, q3]
                  refine rg_one 3 (v := .string ⟨b.toArray⟩) rfl (by kernel_rfl) (by kernel_rfl) (by kernel_rfl) (fun _ _ _ h => h) (by rfl) rfl rfl (fun w' h' => (h'.cell (.tail (.tail (.tail (.head _ _)))) i).trans helw.out) one9 hS ?_
                  simp only [q0, q9, q1, q2, q3]
                  refine rf 4 (.int .i64 (b.length : Nat)) hS ?_
                  simp only [q0, q9, q1, q2, q3]
                  refine rf 5 (.pointer (some ⟨gO, 4, none⟩)) hS ?_
                  simp only [q0, q9, q1, q2, q3]
                  refine rg_one 6 (v := .slice tb td.length tc) rfl (by kernel_rfl) (by kernel_rfl) (by kernel_rfl) (fun _ _ _ h => h) (by rfl) rfl rfl (fun w' h' => (h'.cell (.tail (.head _ _)) 4).trans rfl) one22 hS ?_
                  simp only [q0, q9, q1, q2, q3]
                  refine rf 7 (.int .i64 (td.length : Nat)) hS ?_
                  simp only [q0, q9, q1, q2, q3]
                  refine rf 8 (.int .i64 ((b.length : Int) + td.length)) hS ?_
                  simp only [q0, q9, q1, q2, q3]
                  refine rf 10 (.slice (some ⟨gw, 0, none⟩) wn wc) hS ?_
                  simp only [q0, q9, q1, q2, q3]
                  refine rf 11 (.int .i64 (i : Nat)) hS ?_
                  simp only [q0, q9, q1, q2, q3]
                  refine rf 12 (.pointer (some ⟨gw, i, none⟩)) hS ?_
                  simp only [q0, q9, q1, q2, q3]
                  refine rg_one 13 (v := .string ⟨b.toArray⟩) rfl (by kernel_rfl) (by kernel_rfl) (by kernel_rfl) (fun _ _ _ h => h) (by rfl) rfl rfl (fun w' h' => (h'.cell (.tail (.tail (.tail (.head _ _)))) i).trans helw.out) one9 hS ?_
                  simp only [q0, q9, q1, q2, q3]
                  refine rf 14 (.int .i64 (b.length : Nat)) hS ?_
                  simp only [q0, q9, q1, q2, q3]
                  refine reg_step 9 (by kernel_rfl) rfl ?_
                  refine call_fn rfl (by rfl) cf29 (need_ hM (b.length + td.length) (by omega) (v := (b.length : Int) + td.length) (by omega)) (by simp only [List.map_toArray, List.map_cons, List.map_nil]; rfl) ?_
                  clear hM
                  rintro e w7 ⟨rfl, hM⟩
                  refine ⟨_, rfl, ?_⟩
                  clear hS
                  have hS := hM.swap.none.swap
                  refine ⟨hS, ?_⟩
                  simp only [q0, q9, q1, q2, q3]
                  refine reg_step 15 (by kernel_rfl) rfl ?_
                  refine call_fn rfl (by rfl) cf29 (need_ hM (b.length) (by omega) (v := (b.length : Nat)) (by omega)) (by simp only [List.map_toArray, List.map_cons, List.map_nil]; rfl) ?_
                  clear hM
                  rintro e w7 ⟨rfl, hM⟩
                  refine ⟨_, rfl, ?_⟩
                  clear hS
                  have hS := hM.swap.none.swap
                  refine ⟨hS, ?_⟩
                  simp only [q0, q9, q1, q2, q3]
                  refine rf 16 (.int .i64 ((nd (b.length + td.length) : Int) - (nd b.length : Int))) hS ?_
                  simp only [q0, q9, q1, q2, q3]
                  refine rf 17 (.int .i64 ((nd (b.length + td.length) : Int) - (nd b.length : Int))) hS ?_
                  simp only [q0, q9, q1, q2, q3]
                  refine reg_done (by kernel_rfl) ?_
                  clear hS hwr1 hwr2
                  have hBb : decide ((nd (b.length + td.length) : Int) - (nd b.length : Int) + 1 ≤ (ss.m : Int)) = false := decide_eq_false (by have h1 := (more_need ss.H L b.length td.length).2; have h2 := hfit.out; have h3 : nd b.length ≤ nd (b.length + td.length) := (by unfold nd; omega); omega)
                  rcases Bool.eq_false_or_eq_true (decide ((nd (b.length + td.length) : Int) - (nd b.length : Int) > (ss.m : Int))) with hA | hA
                  all_goals
                   go_wp2_with (first | (go_at_call 19; (with_reducible refine (free hM hcs.ok (ss.m : Nat) rfl).mono ?_); clear hM; rintro e w3 ⟨rfl, hM⟩) | ((with_reducible refine wpl ?_); (first | (apply al_box (hM := hM); rfl; rfl; (first | (focus (go_simp; done)) | (focus (go_simp; rfl))); clear hM; intro gb w1 hM; dsimp only [Value.cells] at hM) | (apply al_zero (hM := hM); rfl; rfl; (first | exact zero41 | exact zero68); clear hM; intro gz w1 hM; dsimp only [Value.cells] at hM) | (apply ld_row (hM := hM); rfl; rfl; rfl; (repeat first | exact .head _ _ | apply Pick.tail); (first | exact row41 | exact row68)) | (apply st_row (hM := hM); rfl; rfl; rfl; (first | (focus (go_simp; done)) | (focus (go_simp; rfl))); (repeat first | exact .head _ _ | apply Pick.tail); rfl; rfl; (first | exact row41 | exact row68); intro w1 hM1; clear hM; (try simp only [q1, q2, q3] at hM1); (try rw [tab_setInt] at hM1);  have hM := hM1; clear hM1) | (apply ld_one (hM := hM); rfl; rfl; rfl; (repeat first | exact .head _ _ | apply Pick.tail); rfl; (first | exact one3 | exact one39 | exact one22 | exact one9)) | (apply st_cell (hM := hM); rfl; rfl; rfl; (first | (focus (go_simp; done)) | (focus (go_simp; rfl))); (repeat first | exact .head _ _ | apply Pick.tail); simp; rfl; (first | exact one3 | exact one39 | exact one22 | exact one9); intro w1 hM1; clear hM; (try simp only [q1, q2, q3] at hM1); (try rw [tab_setInt] at hM1);  have hM := hM1; clear hM1)); simp only [q0, q9, q1, q2, q3]))
                   go_roundw
                   case rel => exact ⟨j + 1, ss, B, cs, _, _, _, _, by omega, by go_num, rfl, rfl, hle, hcs, hIs, hid_ (by have := hjl.out; omega), hid_ (fun d hd => by have := hdl.out d hd; omega), hTa, hTw, hM.tail.tail⟩
                   case measure => simp [intOf]; omega
               · as_aux_lemma =>
                  apply al_zero (hM := hM); rfl; rfl; exact zero41
                  intro gC w5 hM1
                  clear hM
                  dsimp only [Value.cells] at hM1
                  have hM := hM1
                  clear hM1
                  clear hS
                  have hS : Mem B w5 [] [⟨gO, #[.int .i64 ok_, .int .i64 op_, .int .i64 oa_, .int .i64 on_, .slice tb td.length tc], 68, (0, 0)⟩, ⟨ga, ca, 41, (0, 0)⟩, ⟨gw, cw, 9, (0, 0)⟩] := hM.tail.swap.none.swap
                  refine ⟨hS, ?_⟩
                  simp only [q0, q9, q1, q2, q3]
                  refine reg_step 7 (by kernel_rfl) rfl ?_
                  refine call_fn rfl (by rfl) cf22 (cappend_full (c := ⟨.slice xa L.length xk, L, b⟩) (v := (b.length : Nat)) hM hc1 hI1 hbk (by simp only; omega) hfit.out rfl) (by simp only [List.map_toArray, List.map_cons, List.map_nil]; rfl) ?_
                  clear hM
                  rintro e w4 ⟨rfl, hM⟩
                  refine ⟨_, rfl, ?_⟩
                  clear hS
                  have hS : Mem B w4 [] [⟨gO, #[.int .i64 ok_, .int .i64 op_, .int .i64 oa_, .int .i64 on_, .slice tb td.length tc], 68, (0, 0)⟩, ⟨ga, ca, 41, (0, 0)⟩, ⟨gw, cw, 9, (0, 0)⟩] := hM.tail.swap.none.swap
                  refine ⟨hS, ?_⟩
                  simp only [q0, q9, q1, q2, q3]
                  refine rf 8 (.tuple #[.agg #[.slice xa L.length xk, .int .i64 (b.length : Nat)], .int .i64 3]) hS ?_
                  simp only [q0, q9, q1, q2, q3]
                  refine rf 9 (.agg #[.slice xa L.length xk, .int .i64 (b.length : Nat)]) hS ?_
                  simp only [q0, q9, q1, q2, q3]
                  refine rf 10 (.int .i64 3) hS ?_
                  simp only [q0, q9, q1, q2, q3]
                  refine reg_step 12 (by kernel_rfl) rfl ?_
                  apply st_row (hM := hM); rfl; rfl; rfl; (first | (focus (go_simp; done)) | (focus (go_simp; rfl))); (repeat first | exact .head _ _ | apply Pick.tail); rfl; rfl; exact row41
                  clear hM
                  intro w6 hM
                  clear hS
                  have hS : Mem B w6 [] [⟨gO, #[.int .i64 ok_, .int .i64 op_, .int .i64 oa_, .int .i64 on_, .slice tb td.length tc], 68, (0, 0)⟩, ⟨ga, ca, 41, (0, 0)⟩, ⟨gw, cw, 9, (0, 0)⟩] := hM.tail.swap.none.swap
                  refine ⟨hS, ?_⟩
                  simp only [q0, q9, q1, q2, q3]
                  refine rf 13 (.int .i64 3) hS ?_
                  simp only [q0, q9, q1, q2, q3]
                  refine reg_done (by kernel_rfl) ?_
                  clear hS
                  go_wp2_with ((with_reducible refine wpl ?_); (first | (apply al_box (hM := hM); rfl; rfl; (first | (focus (go_simp; done)) | (focus (go_simp; rfl))); clear hM; intro gb w1 hM; dsimp only [Value.cells] at hM) | (apply al_zero (hM := hM); rfl; rfl; (first | exact zero41 | exact zero68); clear hM; intro gz w1 hM; dsimp only [Value.cells] at hM) | (apply ld_row (hM := hM); rfl; rfl; rfl; (repeat first | exact .head _ _ | apply Pick.tail); (first | exact row41 | exact row68)) | (apply st_row (hM := hM); rfl; rfl; rfl; (first | (focus (go_simp; done)) | (focus (go_simp; rfl))); (repeat first | exact .head _ _ | apply Pick.tail); rfl; rfl; (first | exact row41 | exact row68); intro w1 hM1; clear hM; (try simp only [q1, q2, q3] at hM1); (try rw [tab_setInt] at hM1);  have hM := hM1; clear hM1) | (apply ld_one (hM := hM); rfl; rfl; rfl; (repeat first | exact .head _ _ | apply Pick.tail); rfl; (first | exact one3 | exact one39 | exact one22 | exact one9)) | (apply st_cell (hM := hM); rfl; rfl; rfl; (first | (focus (go_simp; done)) | (focus (go_simp; rfl))); (repeat first | exact .head _ _ | apply Pick.tail); simp; rfl; (first | exact one3 | exact one39 | exact one22 | exact one9); intro w1 hM1; clear hM; (try simp only [q1, q2, q3] at hM1); (try rw [tab_setInt] at hM1);  have hM := hM1; clear hM1)); simp only [q0, q9, q1, q2, q3])
                  have hwr1 : IntKind.i64.wrap ((b.length : Int) + td.length) = (b.length : Int) + td.length := IntWalk.i64_in _ (by omega)
                  have hnd1 : (nd (b.length + td.length) : Int) ≤ 1000000 := by unfold nd; omega
                  have hnd2 : (nd b.length : Int) ≤ 1000000 := by unfold nd; omega
                  have hwr2 : IntKind.i64.wrap ((nd (b.length + td.length) : Int) - (nd b.length : Int)) = (nd (b.length + td.length) : Int) - (nd b.length : Int) := IntWalk.i64_in _ (by omega)
                  refine reg_begin (fun w' => Mem B w' [] [⟨gC, #[.slice xa L.length xk, .int .i64 (b.length : Nat)], 41, (0, 0)⟩, ⟨gO, #[.int .i64 ok_, .int .i64 op_, .int .i64 oa_, .int .i64 on_, .slice tb td.length tc], 68, (0, 0)⟩, ⟨ga, ca, 41, (0, 0)⟩, ⟨gw, cw, 9, (0, 0)⟩]) (by kernel_rfl) hM (fun wd hMd => ?_)
                  clear hM
                  have hM := hMd
                  clear hMd
                  have hS := hM.swap.none.swap
                  refine rf 0 (.slice (some ⟨gw, 0, none⟩) wn wc) hS ?_
                  simp only [q0, q9, q1, q2, q3]
                  refine rf 1 (.int .i64 (i : Nat)) hS ?_
                  simp only [q0, q9, q1, q2, q3]
                  refine rf 2 (.pointer (some ⟨gw, i, none⟩)) hS ?_
                  simp only [q0, q9, q1, q2, q3]
                  refine rg_one 3 (v := .string ⟨b.toArray⟩) rfl (by kernel_rfl) (by kernel_rfl) (by kernel_rfl) (fun _ _ _ h => h) (by rfl) rfl rfl (fun w' h' => (h'.cell (.tail (.tail (.tail (.head _ _)))) i).trans helw.out) one9 hS ?_
                  simp only [q0, q9, q1, q2, q3]
                  refine rf 4 (.int .i64 (b.length : Nat)) hS ?_
                  simp only [q0, q9, q1, q2, q3]
                  refine rf 5 (.pointer (some ⟨gO, 4, none⟩)) hS ?_
                  simp only [q0, q9, q1, q2, q3]
                  refine rg_one 6 (v := .slice tb td.length tc) rfl (by kernel_rfl) (by kernel_rfl) (by kernel_rfl) (fun _ _ _ h => h) (by rfl) rfl rfl (fun w' h' => (h'.cell (.tail (.head _ _)) 4).trans rfl) one22 hS ?_
                  simp only [q0, q9, q1, q2, q3]
                  refine rf 7 (.int .i64 (td.length : Nat)) hS ?_
                  simp only [q0, q9, q1, q2, q3]
                  refine rf 8 (.int .i64 ((b.length : Int) + td.length)) hS ?_
                  simp only [q0, q9, q1, q2, q3]
                  refine rf 10 (.slice (some ⟨gw, 0, none⟩) wn wc) hS ?_
                  simp only [q0, q9, q1, q2, q3]
                  refine rf 11 (.int .i64 (i : Nat)) hS ?_
                  simp only [q0, q9, q1, q2, q3]
                  refine rf 12 (.pointer (some ⟨gw, i, none⟩)) hS ?_
                  simp only [q0, q9, q1, q2, q3]
                  refine rg_one 13 (v := .string ⟨b.toArray⟩) rfl (by kernel_rfl) (by kernel_rfl) (by kernel_rfl) (fun _ _ _ h => h) (by rfl) rfl rfl (fun w' h' => (h'.cell (.tail (.tail (.tail (.head _ _)))) i).trans helw.out) one9 hS ?_
                  simp only [q0, q9, q1, q2, q3]
                  refine rf 14 (.int .i64 (b.length : Nat)) hS ?_
                  simp only [q0, q9, q1, q2, q3]
                  refine reg_step 9 (by kernel_rfl) rfl ?_
                  refine call_fn rfl (by rfl) cf29 (need_ hM (b.length + td.length) (by omega) (v := (b.length : Int) + td.length) (by omega)) (by simp only [List.map_toArray, List.map_cons, List.map_nil]; rfl) ?_
                  clear hM
                  rintro e w7 ⟨rfl, hM⟩
                  refine ⟨_, rfl, ?_⟩
                  clear hS
                  have hS := hM.swap.none.swap
                  refine ⟨hS, ?_⟩
                  simp only [q0, q9, q1, q2, q3]
                  refine reg_step 15 (by kernel_rfl) rfl ?_
                  refine call_fn rfl (by rfl) cf29 (need_ hM (b.length) (by omega) (v := (b.length : Nat)) (by omega)) (by simp only [List.map_toArray, List.map_cons, List.map_nil]; rfl) ?_
                  clear hM
                  rintro e w7 ⟨rfl, hM⟩
                  refine ⟨_, rfl, ?_⟩
                  clear hS
                  have hS := hM.swap.none.swap
                  refine ⟨hS, ?_⟩
                  simp only [q0, q9, q1, q2, q3]
                  refine rf 16 (.int .i64 ((nd (b.length + td.length) : Int) - (nd b.length : Int))) hS ?_
                  simp only [q0, q9, q1, q2, q3]
                  refine rf 17 (.int .i64 ((nd (b.length + td.length) : Int) - (nd b.length : Int))) hS ?_
                  simp only [q0, q9, q1, q2, q3]
                  refine reg_done (by kernel_rfl) ?_
                  clear hS hwr1 hwr2
                  have hBb : decide ((nd (b.length + td.length) : Int) - (nd b.length : Int) + 1 ≤ (ss.m : Int)) = false := decide_eq_false (by have h1 := (more_need ss.H L b.length td.length).2; have h2 := hfit.out; have h3 : nd b.length ≤ nd (b.length + td.length) := (by unfold nd; omega); omega)
                  rcases Bool.eq_false_or_eq_true (decide ((nd (b.length + td.length) : Int) - (nd b.length : Int) > (ss.m : Int))) with hA | hA
                  all_goals
                   go_wp2_with (first | (go_at_call 19; (with_reducible refine (free hM hcs.ok (ss.m : Nat) rfl).mono ?_); clear hM; rintro e w3 ⟨rfl, hM⟩) | ((with_reducible refine wpl ?_); (first | (apply al_box (hM := hM); rfl; rfl; (first | (focus (go_simp; done)) | (focus (go_simp; rfl))); clear hM; intro gb w1 hM; dsimp only [Value.cells] at hM) | (apply al_zero (hM := hM); rfl; rfl; (first | exact zero41 | exact zero68); clear hM; intro gz w1 hM; dsimp only [Value.cells] at hM) | (apply ld_row (hM := hM); rfl; rfl; rfl; (repeat first | exact .head _ _ | apply Pick.tail); (first | exact row41 | exact row68)) | (apply st_row (hM := hM); rfl; rfl; rfl; (first | (focus (go_simp; done)) | (focus (go_simp; rfl))); (repeat first | exact .head _ _ | apply Pick.tail); rfl; rfl; (first | exact row41 | exact row68); intro w1 hM1; clear hM; (try simp only [q1, q2, q3] at hM1); (try rw [tab_setInt] at hM1);  have hM := hM1; clear hM1) | (apply ld_one (hM := hM); rfl; rfl; rfl; (repeat first | exact .head _ _ | apply Pick.tail); rfl; (first | exact one3 | exact one39 | exact one22 | exact one9)) | (apply st_cell (hM := hM); rfl; rfl; rfl; (first | (focus (go_simp; done)) | (focus (go_simp; rfl))); (repeat first | exact .head _ _ | apply Pick.tail); simp; rfl; (first | exact one3 | exact one39 | exact one22 | exact one9); intro w1 hM1; clear hM; (try simp only [q1, q2, q3] at hM1); (try rw [tab_setInt] at hM1);  have hM := hM1; clear hM1)); simp only [q0, q9, q1, q2, q3]))
                   go_roundw
                   case rel => exact ⟨j + 1, ss, B, cs, _, _, _, _, by omega, by go_num, rfl, rfl, hle, hcs, hIs, hid_ (by have := hjl.out; omega), hid_ (fun d hd => by have := hdl.out d hd; omega), hTa, hTw, hM.tail.tail⟩
                   case measure => simp [intOf]; omega
          by_cases hk : ok_ = 1
          · have s0 : (ok_ == 0) = false := beq_eq_false_iff_ne.2 (by omega)
            have s1 : (ok_ == 1) = true := beq_iff_eq.2 hk
            clear hk
            as_aux_lemma =>
             go_wp2_with ((with_reducible refine wpl ?_); (first | (apply ld_at (hM := hM) [.slice xa L.length xk, .int .i64 (b.length : Nat)]; rfl; rfl; rfl; (repeat first | exact .head _ _ | apply Pick.tail); exact hela.out; exact row41) | (apply al_box (hM := hM); rfl; rfl; (first | (focus (go_simp; done)) | (focus (go_simp; rfl))); clear hM; intro gb w1 hM; dsimp only [Value.cells] at hM) | (apply al_zero (hM := hM); rfl; rfl; (first | exact zero41 | exact zero68); clear hM; intro gz w1 hM; dsimp only [Value.cells] at hM) | (apply ld_row (hM := hM); rfl; rfl; rfl; (repeat first | exact .head _ _ | apply Pick.tail); (first | exact row41 | exact row68)) | (apply st_row (hM := hM); rfl; rfl; rfl; (first | (focus (go_simp; done)) | (focus (go_simp; rfl))); (repeat first | exact .head _ _ | apply Pick.tail); rfl; rfl; (first | exact row41 | exact row68); intro w1 hM1; clear hM; (try simp only [q1, q2, q3] at hM1); (try rw [tab_setInt] at hM1);  have hM := hM1; clear hM1) | (apply ld_one (hM := hM); rfl; rfl; rfl; (repeat first | exact .head _ _ | apply Pick.tail); rfl; (first | exact one3 | exact one39 | exact one22 | exact one9)) | (apply st_cell (hM := hM); rfl; rfl; rfl; (first | (focus (go_simp; done)) | (focus (go_simp; rfl))); (repeat first | exact .head _ _ | apply Pick.tail); simp; rfl; (first | exact one3 | exact one39 | exact one22 | exact one9); intro w1 hM1; clear hM; (try simp only [q1, q2, q3] at hM1); (try rw [tab_setInt] at hM1);  have hM := hM1; clear hM1)); simp only [q0, q9, q1, q2, q3])
             refine (cshare (c := ⟨.slice xa L.length xk, L, b⟩) (v := (b.length : Nat)) hM hc1 hI1 (by rw [List.length_cons]; have h1 := hlenc.out; have h2 := hjl.out; omega) (fun d hd => by
              rcases List.mem_cons.1 hd with rfl | hd
              · simp only; omega
              · have := hdl.out d (List.mem_of_mem_eraseIdx hd); omega) rfl).mono ?_
             clear hM
             rintro e w4 ⟨s2, a2, m2, k2, B2, rfl, hl2, hM, hc2, hI2, hf2⟩
             replace hf2 := hid_ hf2
             go_wp2_with (first | (go_at_call 19; (with_reducible refine (free hM hc2.ok (ss.m : Nat) (by rw [hf2.out])).mono ?_); clear hM; rintro e w3 ⟨rfl, hM⟩) | ((with_reducible refine wpl ?_); (first | (apply al_box (hM := hM); rfl; rfl; (first | (focus (go_simp; done)) | (focus (go_simp; rfl))); clear hM; intro gb w1 hM; dsimp only [Value.cells] at hM) | (apply al_zero (hM := hM); rfl; rfl; (first | exact zero41 | exact zero68); clear hM; intro gz w1 hM; dsimp only [Value.cells] at hM) | (apply ld_row (hM := hM); rfl; rfl; rfl; (repeat first | exact .head _ _ | apply Pick.tail); (first | exact row41 | exact row68)) | (apply st_row (hM := hM); rfl; rfl; rfl; (first | (focus (go_simp; done)) | (focus (go_simp; rfl))); (repeat first | exact .head _ _ | apply Pick.tail); rfl; rfl; (first | exact row41 | exact row68); intro w1 hM1; clear hM; (try simp only [q1, q2, q3] at hM1); (try rw [tab_setInt] at hM1);  have hM := hM1; clear hM1) | (apply ld_one (hM := hM); rfl; rfl; rfl; (repeat first | exact .head _ _ | apply Pick.tail); rfl; (first | exact one3 | exact one39 | exact one22 | exact one9)) | (apply st_cell (hM := hM); rfl; rfl; rfl; (first | (focus (go_simp; done)) | (focus (go_simp; rfl))); (repeat first | exact .head _ _ | apply Pick.tail); simp; rfl; (first | exact one3 | exact one39 | exact one22 | exact one9); intro w1 hM1; clear hM; (try simp only [q1, q2, q3] at hM1); (try rw [tab_setInt] at hM1);  have hM := hM1; clear hM1)); simp only [q0, q9, q1, q2, q3]))
             obtain ⟨gC, rfl⟩ : ∃ g : Nat, g = gz := ⟨_, rfl⟩
             refine reg_begin (fun w' => Mem B2 w' [] [⟨gC, #[.slice a2 m2 k2, .int .i64 (b.length : Nat)], 41, (0, 0)⟩, ⟨gO, #[.int .i64 ok_, .int .i64 op_, .int .i64 oa_, .int .i64 on_, .slice tb td.length tc], 68, (0, 0)⟩]) (by kernel_rfl) hM (fun wd hMd => ?_)
             clear hM
             have hM := hMd
             clear hMd
             have hS := (show Mem B2 _ [] [⟨gC, #[.slice a2 m2 k2, .int .i64 (b.length : Nat)], 41, (0, 0)⟩, ⟨gO, #[.int .i64 ok_, .int .i64 op_, .int .i64 oa_, .int .i64 on_, .slice tb td.length tc], 68, (0, 0)⟩] from (hM.swap.none.swap.sub (.cons (by (repeat first | exact .head _ _ | apply Pick.tail)) (.cons (by (repeat first | exact .head _ _ | apply Pick.tail)) (.nil _)))))
             refine rf 0 (.slice (some ⟨ga, 0, none⟩) an ac) hS ?_
             simp only [q0, q9, q1, q2, q3]
             refine rg_row 1 [.slice a2 m2 k2, .int .i64 (b.length : Nat)] rfl (by kernel_rfl) (by kernel_rfl) (by kernel_rfl) (fun _ _ _ h => h) (by rfl) rfl rfl (fun w' h' => h'.at_off (.head _ _) _ (fun q v hq => by rw [Nat.zero_add]; simpa using hq)) row41 hS ?_
             simp only [q0, q9, q1, q2, q3]
             refine rf 4 (.slice (some ⟨gw, 0, none⟩) wn wc) hS ?_
             simp only [q0, q9, q1, q2, q3]
             refine rf 5 (.slice (some ⟨gw, 0, none⟩) wn wc) hS ?_
             simp only [q0, q9, q1, q2, q3]
             refine rf 6 (.int .i64 (i : Nat)) hS ?_
             simp only [q0, q9, q1, q2, q3]
             refine rf 7 (.pointer (some ⟨gw, i, none⟩)) hS ?_
             simp only [q0, q9, q1, q2, q3]
             refine reg_two 2 8 (by kernel_rfl) rfl rfl ?_ ?_
             · as_aux_lemma =>
                apply al_elem (hM := hM) (ht := sl44) (v := .agg #[.slice a2 m2 k2, .int .i64 (b.length : Nat)]) (cells := #[.slice a2 m2 k2, .int .i64 (b.length : Nat)]); rfl; rfl; decide; rfl; simp [Instr.fill, Value.cells, Array.range_succ, Array.range_zero']
                clear hM
                intro gq w8 hM
                clear hS
                have hS := (show Mem B2 _ [] [⟨gC, #[.slice a2 m2 k2, .int .i64 (b.length : Nat)], 41, (0, 0)⟩, ⟨gO, #[.int .i64 ok_, .int .i64 op_, .int .i64 oa_, .int .i64 on_, .slice tb td.length tc], 68, (0, 0)⟩] from (hM.swap.none.swap.sub (.cons (by (repeat first | exact .head _ _ | apply Pick.tail)) (.cons (by (repeat first | exact .head _ _ | apply Pick.tail)) (.nil _)))))
                refine ⟨hS, ?_⟩
                simp only [q0, q9, q1, q2, q3]
                refine reg_two 3 8 (by kernel_rfl) rfl rfl ?_ ?_
                · as_aux_lemma =>
                   apply tb_app_p (gq := gq) (es := [.slice a2 m2 k2, .int .i64 (b.length : Nat)]) (hM := hM.perm (Pick.perm (b := ⟨gq, #[.slice a2 m2 k2, .int .i64 (b.length : Nat)], 41, (0, 0)⟩) (by (repeat first | exact .head _ _ | apply Pick.tail)))) (hA := (Pick.perm (b := ⟨ga, ca, 41, (0, 0)⟩) (by (repeat first | exact .head _ _ | apply Pick.tail))).trans (List.perm_append_singleton _ _).symm) (hT := hTa) (ht := sl44); rfl; rfl; rfl; rfl; rfl; rfl; rfl; decide; omega; omega
                   intro g1 c1 n1 cells1 w8 hn_g1 hTa1 hM1
                   clear hM
                   simp only [List.cons_append, List.nil_append] at hM1
                   have hM := hM1
                   clear hM1
                   clear hS
                   have hS := (show Mem B2 _ [] [⟨gC, #[.slice a2 m2 k2, .int .i64 (b.length : Nat)], 41, (0, 0)⟩, ⟨gO, #[.int .i64 ok_, .int .i64 op_, .int .i64 oa_, .int .i64 on_, .slice tb td.length tc], 68, (0, 0)⟩] from (hM.swap.none.swap.sub (.cons (by (repeat first | exact .head _ _ | apply Pick.tail)) (.cons (by (repeat first | exact .head _ _ | apply Pick.tail)) (.nil _)))))
                   refine ⟨hS, ?_⟩
                   simp only [q0, q9, q1, q2, q3]
                   refine reg_step 8 (by kernel_rfl) rfl ?_
                   apply ld_one (hM := hM); rfl; rfl; rfl; exact (show Pick _ ⟨gw, cw, 9, (0, 0)⟩ _ by (repeat first | exact .head _ _ | apply Pick.tail)); exact helw.out; exact one9
                   refine ⟨hS, ?_⟩
                   simp only [q0, q9, q1, q2, q3]
                   refine reg_step 9 (by kernel_rfl) rfl ?_
                   apply al_one (hM := hM) (v := .string ⟨b.toArray⟩) (ht := sl66); rfl; rfl; rfl; rfl
                   clear hM
                   intro gq2 w8 hM
                   clear hS
                   have hS := (show Mem B2 _ [] [⟨gC, #[.slice a2 m2 k2, .int .i64 (b.length : Nat)], 41, (0, 0)⟩, ⟨gO, #[.int .i64 ok_, .int .i64 op_, .int .i64 oa_, .int .i64 on_, .slice tb td.length tc], 68, (0, 0)⟩] from (hM.swap.none.swap.sub (.cons (by (repeat first | exact .head _ _ | apply Pick.tail)) (.cons (by (repeat first | exact .head _ _ | apply Pick.tail)) (.nil _)))))
                   refine ⟨hS, ?_⟩
                   simp only [q0, q9, q1, q2, q3]
                   refine reg_step 10 (by kernel_rfl) rfl ?_
                   apply tb_app_p (gq := gq2) (es := [.string ⟨b.toArray⟩]) (hM := hM.perm (Pick.perm (b := ⟨gq2, #[.string ⟨b.toArray⟩], 9, (0, 0)⟩) (by (repeat first | exact .head _ _ | apply Pick.tail)))) (hA := (Pick.perm (b := ⟨gw, cw, 9, (0, 0)⟩) (by (repeat first | exact .head _ _ | apply Pick.tail))).trans (List.perm_append_singleton _ _).symm) (hT := hTw) (ht := sl66); rfl; rfl; rfl; rfl; rfl; rfl; rfl; decide; omega; omega
                   intro g2 c2 n2 cells2 w8 hn_g2 hTw1 hM1
                   clear hM
                   simp only [List.cons_append, List.nil_append] at hM1
                   have hM := hM1
                   clear hM1
                   clear hS
                   have hS := (show Mem B2 _ [] [⟨gC, #[.slice a2 m2 k2, .int .i64 (b.length : Nat)], 41, (0, 0)⟩, ⟨gO, #[.int .i64 ok_, .int .i64 op_, .int .i64 oa_, .int .i64 on_, .slice tb td.length tc], 68, (0, 0)⟩] from (hM.swap.none.swap.sub (.cons (by (repeat first | exact .head _ _ | apply Pick.tail)) (.cons (by (repeat first | exact .head _ _ | apply Pick.tail)) (.nil _)))))
                   refine ⟨hS, ?_⟩
                   simp only [q0, q9, q1, q2, q3]
                   refine rf 11 (.slice (some ⟨g1, 0, none⟩) n1 c1) hS ?_
                   simp only [q0, q9, q1, q2, q3]
                   refine rf 12 (.slice (some ⟨g2, 0, none⟩) n2 c2) hS ?_
                   simp only [q0, q9, q1, q2, q3]
                   refine reg_done (by kernel_rfl) ?_
                   clear hS
                   go_wp2_with ((with_reducible refine wpl ?_); (first | (apply al_box (hM := hM); rfl; rfl; (first | (focus (go_simp; done)) | (focus (go_simp; rfl))); clear hM; intro gb w1 hM; dsimp only [Value.cells] at hM) | (apply al_zero (hM := hM); rfl; rfl; (first | exact zero41 | exact zero68); clear hM; intro gz w1 hM; dsimp only [Value.cells] at hM) | (apply ld_row (hM := hM); rfl; rfl; rfl; (repeat first | exact .head _ _ | apply Pick.tail); (first | exact row41 | exact row68)) | (apply st_row (hM := hM); rfl; rfl; rfl; (first | (focus (go_simp; done)) | (focus (go_simp; rfl))); (repeat first | exact .head _ _ | apply Pick.tail); rfl; rfl; (first | exact row41 | exact row68); intro w1 hM1; clear hM; (try simp only [q1, q2, q3] at hM1); (try rw [tab_setInt] at hM1);  have hM := hM1; clear hM1) | (apply ld_one (hM := hM); rfl; rfl; rfl; (repeat first | exact .head _ _ | apply Pick.tail); rfl; (first | exact one3 | exact one39 | exact one22 | exact one9)) | (apply st_cell (hM := hM); rfl; rfl; rfl; (first | (focus (go_simp; done)) | (focus (go_simp; rfl))); (repeat first | exact .head _ _ | apply Pick.tail); simp; rfl; (first | exact one3 | exact one39 | exact one22 | exact one9); intro w1 hM1; clear hM; (try simp only [q1, q2, q3] at hM1); (try rw [tab_setInt] at hM1);  have hM := hM1; clear hM1)); simp only [q0, q9, q1, q2, q3])
                   have hTa2 := hTa1
                   have hTw2 := hTw1
                   have e1 := flat_app ctc cs (⟨.slice a2 m2 k2, L, b⟩ : Ct)
                   rw [show ctc (⟨.slice a2 m2 k2, L, b⟩ : Ct) = [Value.slice a2 m2 k2, .int .i64 (b.length : Nat)] from rfl] at e1
                   rw [e1] at hTa2
                   have e2 := flat_app cws cs (⟨.slice a2 m2 k2, L, b⟩ : Ct)
                   rw [show cws (⟨.slice a2 m2 k2, L, b⟩ : Ct) = [Value.string ⟨b.toArray⟩] from rfl] at e2
                   rw [e2] at hTw2
                   clear e1 e2
                   have hM2 := hM.sub (.cons (show Pick _ ⟨g1, cells1, 41, (0, 0)⟩ _ by (repeat first | exact .head _ _ | apply Pick.tail)) (.cons (show Pick _ ⟨g2, cells2, 9, (0, 0)⟩ _ by (repeat first | exact .head _ _ | apply Pick.tail)) (.nil _)))
                   clear hTa1 hTw1
                   go_roundw
                   case rel =>
                    have hpp := (hperm.out.symm.cons (⟨.slice a2 m2 k2, L, b⟩ : Ct)).trans (List.perm_append_singleton _ _).symm
                    refine ⟨j + 1, s2, B2, cs ++ [⟨.slice a2 m2 k2, L, b⟩], _, _, _, _, by omega, by go_num, rfl, rfl, hle.trans hl2, hc2.perm hpp, hI2.perm hpp, hid_ (by rw [List.length_append, List.length_singleton]; have := hjl.out; omega), hid_ (fun d hd => ?_), hTa2, hTw2, hM2⟩
                    rcases List.mem_append.1 hd with hd | hd
                    · have := hdl.out d hd; omega
                    · rw [List.mem_singleton] at hd
                      subst hd
                      simp only
                      omega
                   case measure => simp [intOf]; omega
                · as_aux_lemma =>
                   apply ld_one (hM := hM); rfl; rfl; rfl; exact (show Pick _ ⟨gw, cw, 9, (0, 0)⟩ _ by (repeat first | exact .head _ _ | apply Pick.tail)); exact helw.out; exact one9
                   refine ⟨hS, ?_⟩
                   simp only [q0, q9, q1, q2, q3]
                   refine reg_two 3 9 (by kernel_rfl) rfl rfl ?_ ?_
                   · as_aux_lemma =>
                      apply tb_app_p (gq := gq) (es := [.slice a2 m2 k2, .int .i64 (b.length : Nat)]) (hM := hM.perm (Pick.perm (b := ⟨gq, #[.slice a2 m2 k2, .int .i64 (b.length : Nat)], 41, (0, 0)⟩) (by (repeat first | exact .head _ _ | apply Pick.tail)))) (hA := (Pick.perm (b := ⟨ga, ca, 41, (0, 0)⟩) (by (repeat first | exact .head _ _ | apply Pick.tail))).trans (List.perm_append_singleton _ _).symm) (hT := hTa) (ht := sl44); rfl; rfl; rfl; rfl; rfl; rfl; rfl; decide; omega; omega
                      intro g1 c1 n1 cells1 w8 hn_g1 hTa1 hM1
                      clear hM
                      simp only [List.cons_append, List.nil_append] at hM1
                      have hM := hM1
                      clear hM1
                      clear hS
                      have hS := (show Mem B2 _ [] [⟨gC, #[.slice a2 m2 k2, .int .i64 (b.length : Nat)], 41, (0, 0)⟩, ⟨gO, #[.int .i64 ok_, .int .i64 op_, .int .i64 oa_, .int .i64 on_, .slice tb td.length tc], 68, (0, 0)⟩] from (hM.swap.none.swap.sub (.cons (by (repeat first | exact .head _ _ | apply Pick.tail)) (.cons (by (repeat first | exact .head _ _ | apply Pick.tail)) (.nil _)))))
                      refine ⟨hS, ?_⟩
                      simp only [q0, q9, q1, q2, q3]
                      refine reg_step 9 (by kernel_rfl) rfl ?_
                      apply al_one (hM := hM) (v := .string ⟨b.toArray⟩) (ht := sl66); rfl; rfl; rfl; rfl
                      clear hM
                      intro gq2 w8 hM
                      clear hS
                      have hS := (show Mem B2 _ [] [⟨gC, #[.slice a2 m2 k2, .int .i64 (b.length : Nat)], 41, (0, 0)⟩, ⟨gO, #[.int .i64 ok_, .int .i64 op_, .int .i64 oa_, .int .i64 on_, .slice tb td.length tc], 68, (0, 0)⟩] from (hM.swap.none.swap.sub (.cons (by (repeat first | exact .head _ _ | apply Pick.tail)) (.cons (by (repeat first | exact .head _ _ | apply Pick.tail)) (.nil _)))))
                      refine ⟨hS, ?_⟩
                      simp only [q0, q9, q1, q2, q3]
                      refine reg_step 10 (by kernel_rfl) rfl ?_
                      apply tb_app_p (gq := gq2) (es := [.string ⟨b.toArray⟩]) (hM := hM.perm (Pick.perm (b := ⟨gq2, #[.string ⟨b.toArray⟩], 9, (0, 0)⟩) (by (repeat first | exact .head _ _ | apply Pick.tail)))) (hA := (Pick.perm (b := ⟨gw, cw, 9, (0, 0)⟩) (by (repeat first | exact .head _ _ | apply Pick.tail))).trans (List.perm_append_singleton _ _).symm) (hT := hTw) (ht := sl66); rfl; rfl; rfl; rfl; rfl; rfl; rfl; decide; omega; omega
                      intro g2 c2 n2 cells2 w8 hn_g2 hTw1 hM1
                      clear hM
                      simp only [List.cons_append, List.nil_append] at hM1
                      have hM := hM1
                      clear hM1
                      clear hS
                      have hS := (show Mem B2 _ [] [⟨gC, #[.slice a2 m2 k2, .int .i64 (b.length : Nat)], 41, (0, 0)⟩, ⟨gO, #[.int .i64 ok_, .int .i64 op_, .int .i64 oa_, .int .i64 on_, .slice tb td.length tc], 68, (0, 0)⟩] from (hM.swap.none.swap.sub (.cons (by (repeat first | exact .head _ _ | apply Pick.tail)) (.cons (by (repeat first | exact .head _ _ | apply Pick.tail)) (.nil _)))))
                      refine ⟨hS, ?_⟩
                      simp only [q0, q9, q1, q2, q3]
                      refine rf 11 (.slice (some ⟨g1, 0, none⟩) n1 c1) hS ?_
                      simp only [q0, q9, q1, q2, q3]
                      refine rf 12 (.slice (some ⟨g2, 0, none⟩) n2 c2) hS ?_
                      simp only [q0, q9, q1, q2, q3]
                      refine reg_done (by kernel_rfl) ?_
                      clear hS
                      go_wp2_with ((with_reducible refine wpl ?_); (first | (apply al_box (hM := hM); rfl; rfl; (first | (focus (go_simp; done)) | (focus (go_simp; rfl))); clear hM; intro gb w1 hM; dsimp only [Value.cells] at hM) | (apply al_zero (hM := hM); rfl; rfl; (first | exact zero41 | exact zero68); clear hM; intro gz w1 hM; dsimp only [Value.cells] at hM) | (apply ld_row (hM := hM); rfl; rfl; rfl; (repeat first | exact .head _ _ | apply Pick.tail); (first | exact row41 | exact row68)) | (apply st_row (hM := hM); rfl; rfl; rfl; (first | (focus (go_simp; done)) | (focus (go_simp; rfl))); (repeat first | exact .head _ _ | apply Pick.tail); rfl; rfl; (first | exact row41 | exact row68); intro w1 hM1; clear hM; (try simp only [q1, q2, q3] at hM1); (try rw [tab_setInt] at hM1);  have hM := hM1; clear hM1) | (apply ld_one (hM := hM); rfl; rfl; rfl; (repeat first | exact .head _ _ | apply Pick.tail); rfl; (first | exact one3 | exact one39 | exact one22 | exact one9)) | (apply st_cell (hM := hM); rfl; rfl; rfl; (first | (focus (go_simp; done)) | (focus (go_simp; rfl))); (repeat first | exact .head _ _ | apply Pick.tail); simp; rfl; (first | exact one3 | exact one39 | exact one22 | exact one9); intro w1 hM1; clear hM; (try simp only [q1, q2, q3] at hM1); (try rw [tab_setInt] at hM1);  have hM := hM1; clear hM1)); simp only [q0, q9, q1, q2, q3])
                      have hTa2 := hTa1
                      have hTw2 := hTw1
                      have e1 := flat_app ctc cs (⟨.slice a2 m2 k2, L, b⟩ : Ct)
                      rw [show ctc (⟨.slice a2 m2 k2, L, b⟩ : Ct) = [Value.slice a2 m2 k2, .int .i64 (b.length : Nat)] from rfl] at e1
                      rw [e1] at hTa2
                      have e2 := flat_app cws cs (⟨.slice a2 m2 k2, L, b⟩ : Ct)
                      rw [show cws (⟨.slice a2 m2 k2, L, b⟩ : Ct) = [Value.string ⟨b.toArray⟩] from rfl] at e2
                      rw [e2] at hTw2
                      clear e1 e2
                      have hM2 := hM.sub (.cons (show Pick _ ⟨g1, cells1, 41, (0, 0)⟩ _ by (repeat first | exact .head _ _ | apply Pick.tail)) (.cons (show Pick _ ⟨g2, cells2, 9, (0, 0)⟩ _ by (repeat first | exact .head _ _ | apply Pick.tail)) (.nil _)))
                      clear hTa1 hTw1
                      go_roundw
                      case rel =>
                       have hpp := (hperm.out.symm.cons (⟨.slice a2 m2 k2, L, b⟩ : Ct)).trans (List.perm_append_singleton _ _).symm
                       refine ⟨j + 1, s2, B2, cs ++ [⟨.slice a2 m2 k2, L, b⟩], _, _, _, _, by omega, by go_num, rfl, rfl, hle.trans hl2, hc2.perm hpp, hI2.perm hpp, hid_ (by rw [List.length_append, List.length_singleton]; have := hjl.out; omega), hid_ (fun d hd => ?_), hTa2, hTw2, hM2⟩
                       rcases List.mem_append.1 hd with hd | hd
                       · have := hdl.out d hd; omega
                       · rw [List.mem_singleton] at hd
                         subst hd
                         simp only
                         omega
                      case measure => simp [intOf]; omega
                   · as_aux_lemma =>
                      apply al_one (hM := hM) (v := .string ⟨b.toArray⟩) (ht := sl66); rfl; rfl; rfl; rfl
                      clear hM
                      intro gq2 w8 hM
                      clear hS
                      have hS := (show Mem B2 _ [] [⟨gC, #[.slice a2 m2 k2, .int .i64 (b.length : Nat)], 41, (0, 0)⟩, ⟨gO, #[.int .i64 ok_, .int .i64 op_, .int .i64 oa_, .int .i64 on_, .slice tb td.length tc], 68, (0, 0)⟩] from (hM.swap.none.swap.sub (.cons (by (repeat first | exact .head _ _ | apply Pick.tail)) (.cons (by (repeat first | exact .head _ _ | apply Pick.tail)) (.nil _)))))
                      refine ⟨hS, ?_⟩
                      simp only [q0, q9, q1, q2, q3]
                      refine reg_step 3 (by kernel_rfl) rfl ?_
                      apply tb_app_p (gq := gq) (es := [.slice a2 m2 k2, .int .i64 (b.length : Nat)]) (hM := hM.perm (Pick.perm (b := ⟨gq, #[.slice a2 m2 k2, .int .i64 (b.length : Nat)], 41, (0, 0)⟩) (by (repeat first | exact .head _ _ | apply Pick.tail)))) (hA := (Pick.perm (b := ⟨ga, ca, 41, (0, 0)⟩) (by (repeat first | exact .head _ _ | apply Pick.tail))).trans (List.perm_append_singleton _ _).symm) (hT := hTa) (ht := sl44); rfl; rfl; rfl; rfl; rfl; rfl; rfl; decide; omega; omega
                      intro g1 c1 n1 cells1 w8 hn_g1 hTa1 hM1
                      clear hM
                      simp only [List.cons_append, List.nil_append] at hM1
                      have hM := hM1
                      clear hM1
                      clear hS
                      have hS := (show Mem B2 _ [] [⟨gC, #[.slice a2 m2 k2, .int .i64 (b.length : Nat)], 41, (0, 0)⟩, ⟨gO, #[.int .i64 ok_, .int .i64 op_, .int .i64 oa_, .int .i64 on_, .slice tb td.length tc], 68, (0, 0)⟩] from (hM.swap.none.swap.sub (.cons (by (repeat first | exact .head _ _ | apply Pick.tail)) (.cons (by (repeat first | exact .head _ _ | apply Pick.tail)) (.nil _)))))
                      refine ⟨hS, ?_⟩
                      simp only [q0, q9, q1, q2, q3]
                      refine reg_step 10 (by kernel_rfl) rfl ?_
                      apply tb_app_p (gq := gq2) (es := [.string ⟨b.toArray⟩]) (hM := hM.perm (Pick.perm (b := ⟨gq2, #[.string ⟨b.toArray⟩], 9, (0, 0)⟩) (by (repeat first | exact .head _ _ | apply Pick.tail)))) (hA := (Pick.perm (b := ⟨gw, cw, 9, (0, 0)⟩) (by (repeat first | exact .head _ _ | apply Pick.tail))).trans (List.perm_append_singleton _ _).symm) (hT := hTw) (ht := sl66); rfl; rfl; rfl; rfl; rfl; rfl; rfl; decide; omega; omega
                      intro g2 c2 n2 cells2 w8 hn_g2 hTw1 hM1
                      clear hM
                      simp only [List.cons_append, List.nil_append] at hM1
                      have hM := hM1
                      clear hM1
                      clear hS
                      have hS := (show Mem B2 _ [] [⟨gC, #[.slice a2 m2 k2, .int .i64 (b.length : Nat)], 41, (0, 0)⟩, ⟨gO, #[.int .i64 ok_, .int .i64 op_, .int .i64 oa_, .int .i64 on_, .slice tb td.length tc], 68, (0, 0)⟩] from (hM.swap.none.swap.sub (.cons (by (repeat first | exact .head _ _ | apply Pick.tail)) (.cons (by (repeat first | exact .head _ _ | apply Pick.tail)) (.nil _)))))
                      refine ⟨hS, ?_⟩
                      simp only [q0, q9, q1, q2, q3]
                      refine rf 11 (.slice (some ⟨g1, 0, none⟩) n1 c1) hS ?_
                      simp only [q0, q9, q1, q2, q3]
                      refine rf 12 (.slice (some ⟨g2, 0, none⟩) n2 c2) hS ?_
                      simp only [q0, q9, q1, q2, q3]
                      refine reg_done (by kernel_rfl) ?_
                      clear hS
                      go_wp2_with ((with_reducible refine wpl ?_); (first | (apply al_box (hM := hM); rfl; rfl; (first | (focus (go_simp; done)) | (focus (go_simp; rfl))); clear hM; intro gb w1 hM; dsimp only [Value.cells] at hM) | (apply al_zero (hM := hM); rfl; rfl; (first | exact zero41 | exact zero68); clear hM; intro gz w1 hM; dsimp only [Value.cells] at hM) | (apply ld_row (hM := hM); rfl; rfl; rfl; (repeat first | exact .head _ _ | apply Pick.tail); (first | exact row41 | exact row68)) | (apply st_row (hM := hM); rfl; rfl; rfl; (first | (focus (go_simp; done)) | (focus (go_simp; rfl))); (repeat first | exact .head _ _ | apply Pick.tail); rfl; rfl; (first | exact row41 | exact row68); intro w1 hM1; clear hM; (try simp only [q1, q2, q3] at hM1); (try rw [tab_setInt] at hM1);  have hM := hM1; clear hM1) | (apply ld_one (hM := hM); rfl; rfl; rfl; (repeat first | exact .head _ _ | apply Pick.tail); rfl; (first | exact one3 | exact one39 | exact one22 | exact one9)) | (apply st_cell (hM := hM); rfl; rfl; rfl; (first | (focus (go_simp; done)) | (focus (go_simp; rfl))); (repeat first | exact .head _ _ | apply Pick.tail); simp; rfl; (first | exact one3 | exact one39 | exact one22 | exact one9); intro w1 hM1; clear hM; (try simp only [q1, q2, q3] at hM1); (try rw [tab_setInt] at hM1);  have hM := hM1; clear hM1)); simp only [q0, q9, q1, q2, q3])
                      have hTa2 := hTa1
                      have hTw2 := hTw1
                      have e1 := flat_app ctc cs (⟨.slice a2 m2 k2, L, b⟩ : Ct)
                      rw [show ctc (⟨.slice a2 m2 k2, L, b⟩ : Ct) = [Value.slice a2 m2 k2, .int .i64 (b.length : Nat)] from rfl] at e1
                      rw [e1] at hTa2
                      have e2 := flat_app cws cs (⟨.slice a2 m2 k2, L, b⟩ : Ct)
                      rw [show cws (⟨.slice a2 m2 k2, L, b⟩ : Ct) = [Value.string ⟨b.toArray⟩] from rfl] at e2
                      rw [e2] at hTw2
                      clear e1 e2
                      have hM2 := hM.sub (.cons (show Pick _ ⟨g1, cells1, 41, (0, 0)⟩ _ by (repeat first | exact .head _ _ | apply Pick.tail)) (.cons (show Pick _ ⟨g2, cells2, 9, (0, 0)⟩ _ by (repeat first | exact .head _ _ | apply Pick.tail)) (.nil _)))
                      clear hTa1 hTw1
                      go_roundw
                      case rel =>
                       have hpp := (hperm.out.symm.cons (⟨.slice a2 m2 k2, L, b⟩ : Ct)).trans (List.perm_append_singleton _ _).symm
                       refine ⟨j + 1, s2, B2, cs ++ [⟨.slice a2 m2 k2, L, b⟩], _, _, _, _, by omega, by go_num, rfl, rfl, hle.trans hl2, hc2.perm hpp, hI2.perm hpp, hid_ (by rw [List.length_append, List.length_singleton]; have := hjl.out; omega), hid_ (fun d hd => ?_), hTa2, hTw2, hM2⟩
                       rcases List.mem_append.1 hd with hd | hd
                       · have := hdl.out d hd; omega
                       · rw [List.mem_singleton] at hd
                         subst hd
                         simp only
                         omega
                      case measure => simp [intOf]; omega
             · as_aux_lemma =>
                apply ld_one (hM := hM); rfl; rfl; rfl; exact (show Pick _ ⟨gw, cw, 9, (0, 0)⟩ _ by (repeat first | exact .head _ _ | apply Pick.tail)); exact helw.out; exact one9
                refine ⟨hS, ?_⟩
                simp only [q0, q9, q1, q2, q3]
                refine reg_two 2 9 (by kernel_rfl) rfl rfl ?_ ?_
                · as_aux_lemma =>
                   apply al_elem (hM := hM) (ht := sl44) (v := .agg #[.slice a2 m2 k2, .int .i64 (b.length : Nat)]) (cells := #[.slice a2 m2 k2, .int .i64 (b.length : Nat)]); rfl; rfl; decide; rfl; simp [Instr.fill, Value.cells, Array.range_succ, Array.range_zero']
                   clear hM
                   intro gq w8 hM
                   clear hS
                   have hS := (show Mem B2 _ [] [⟨gC, #[.slice a2 m2 k2, .int .i64 (b.length : Nat)], 41, (0, 0)⟩, ⟨gO, #[.int .i64 ok_, .int .i64 op_, .int .i64 oa_, .int .i64 on_, .slice tb td.length tc], 68, (0, 0)⟩] from (hM.swap.none.swap.sub (.cons (by (repeat first | exact .head _ _ | apply Pick.tail)) (.cons (by (repeat first | exact .head _ _ | apply Pick.tail)) (.nil _)))))
                   refine ⟨hS, ?_⟩
                   simp only [q0, q9, q1, q2, q3]
                   refine reg_two 3 9 (by kernel_rfl) rfl rfl ?_ ?_
                   · as_aux_lemma =>
                      apply tb_app_p (gq := gq) (es := [.slice a2 m2 k2, .int .i64 (b.length : Nat)]) (hM := hM.perm (Pick.perm (b := ⟨gq, #[.slice a2 m2 k2, .int .i64 (b.length : Nat)], 41, (0, 0)⟩) (by (repeat first | exact .head _ _ | apply Pick.tail)))) (hA := (Pick.perm (b := ⟨ga, ca, 41, (0, 0)⟩) (by (repeat first | exact .head _ _ | apply Pick.tail))).trans (List.perm_append_singleton _ _).symm) (hT := hTa) (ht := sl44); rfl; rfl; rfl; rfl; rfl; rfl; rfl; decide; omega; omega
                      intro g1 c1 n1 cells1 w8 hn_g1 hTa1 hM1
                      clear hM
                      simp only [List.cons_append, List.nil_append] at hM1
                      have hM := hM1
                      clear hM1
                      clear hS
                      have hS := (show Mem B2 _ [] [⟨gC, #[.slice a2 m2 k2, .int .i64 (b.length : Nat)], 41, (0, 0)⟩, ⟨gO, #[.int .i64 ok_, .int .i64 op_, .int .i64 oa_, .int .i64 on_, .slice tb td.length tc], 68, (0, 0)⟩] from (hM.swap.none.swap.sub (.cons (by (repeat first | exact .head _ _ | apply Pick.tail)) (.cons (by (repeat first | exact .head _ _ | apply Pick.tail)) (.nil _)))))
                      refine ⟨hS, ?_⟩
                      simp only [q0, q9, q1, q2, q3]
                      refine reg_step 9 (by kernel_rfl) rfl ?_
                      apply al_one (hM := hM) (v := .string ⟨b.toArray⟩) (ht := sl66); rfl; rfl; rfl; rfl
                      clear hM
                      intro gq2 w8 hM
                      clear hS
                      have hS := (show Mem B2 _ [] [⟨gC, #[.slice a2 m2 k2, .int .i64 (b.length : Nat)], 41, (0, 0)⟩, ⟨gO, #[.int .i64 ok_, .int .i64 op_, .int .i64 oa_, .int .i64 on_, .slice tb td.length tc], 68, (0, 0)⟩] from (hM.swap.none.swap.sub (.cons (by (repeat first | exact .head _ _ | apply Pick.tail)) (.cons (by (repeat first | exact .head _ _ | apply Pick.tail)) (.nil _)))))
                      refine ⟨hS, ?_⟩
                      simp only [q0, q9, q1, q2, q3]
                      refine reg_step 10 (by kernel_rfl) rfl ?_
                      apply tb_app_p (gq := gq2) (es := [.string ⟨b.toArray⟩]) (hM := hM.perm (Pick.perm (b := ⟨gq2, #[.string ⟨b.toArray⟩], 9, (0, 0)⟩) (by (repeat first | exact .head _ _ | apply Pick.tail)))) (hA := (Pick.perm (b := ⟨gw, cw, 9, (0, 0)⟩) (by (repeat first | exact .head _ _ | apply Pick.tail))).trans (List.perm_append_singleton _ _).symm) (hT := hTw) (ht := sl66); rfl; rfl; rfl; rfl; rfl; rfl; rfl; decide; omega; omega
                      intro g2 c2 n2 cells2 w8 hn_g2 hTw1 hM1
                      clear hM
                      simp only [List.cons_append, List.nil_append] at hM1
                      have hM := hM1
                      clear hM1
                      clear hS
                      have hS := (show Mem B2 _ [] [⟨gC, #[.slice a2 m2 k2, .int .i64 (b.length : Nat)], 41, (0, 0)⟩, ⟨gO, #[.int .i64 ok_, .int .i64 op_, .int .i64 oa_, .int .i64 on_, .slice tb td.length tc], 68, (0, 0)⟩] from (hM.swap.none.swap.sub (.cons (by (repeat first | exact .head _ _ | apply Pick.tail)) (.cons (by (repeat first | exact .head _ _ | apply Pick.tail)) (.nil _)))))
                      refine ⟨hS, ?_⟩
                      simp only [q0, q9, q1, q2, q3]
                      refine rf 11 (.slice (some ⟨g1, 0, none⟩) n1 c1) hS ?_
                      simp only [q0, q9, q1, q2, q3]
                      refine rf 12 (.slice (some ⟨g2, 0, none⟩) n2 c2) hS ?_
                      simp only [q0, q9, q1, q2, q3]
                      refine reg_done (by kernel_rfl) ?_
                      clear hS
                      go_wp2_with ((with_reducible refine wpl ?_); (first | (apply al_box (hM := hM); rfl; rfl; (first | (focus (go_simp; done)) | (focus (go_simp; rfl))); clear hM; intro gb w1 hM; dsimp only [Value.cells] at hM) | (apply al_zero (hM := hM); rfl; rfl; (first | exact zero41 | exact zero68); clear hM; intro gz w1 hM; dsimp only [Value.cells] at hM) | (apply ld_row (hM := hM); rfl; rfl; rfl; (repeat first | exact .head _ _ | apply Pick.tail); (first | exact row41 | exact row68)) | (apply st_row (hM := hM); rfl; rfl; rfl; (first | (focus (go_simp; done)) | (focus (go_simp; rfl))); (repeat first | exact .head _ _ | apply Pick.tail); rfl; rfl; (first | exact row41 | exact row68); intro w1 hM1; clear hM; (try simp only [q1, q2, q3] at hM1); (try rw [tab_setInt] at hM1);  have hM := hM1; clear hM1) | (apply ld_one (hM := hM); rfl; rfl; rfl; (repeat first | exact .head _ _ | apply Pick.tail); rfl; (first | exact one3 | exact one39 | exact one22 | exact one9)) | (apply st_cell (hM := hM); rfl; rfl; rfl; (first | (focus (go_simp; done)) | (focus (go_simp; rfl))); (repeat first | exact .head _ _ | apply Pick.tail); simp; rfl; (first | exact one3 | exact one39 | exact one22 | exact one9); intro w1 hM1; clear hM; (try simp only [q1, q2, q3] at hM1); (try rw [tab_setInt] at hM1);  have hM := hM1; clear hM1)); simp only [q0, q9, q1, q2, q3])
                      have hTa2 := hTa1
                      have hTw2 := hTw1
                      have e1 := flat_app ctc cs (⟨.slice a2 m2 k2, L, b⟩ : Ct)
                      rw [show ctc (⟨.slice a2 m2 k2, L, b⟩ : Ct) = [Value.slice a2 m2 k2, .int .i64 (b.length : Nat)] from rfl] at e1
                      rw [e1] at hTa2
                      have e2 := flat_app cws cs (⟨.slice a2 m2 k2, L, b⟩ : Ct)
                      rw [show cws (⟨.slice a2 m2 k2, L, b⟩ : Ct) = [Value.string ⟨b.toArray⟩] from rfl] at e2
                      rw [e2] at hTw2
                      clear e1 e2
                      have hM2 := hM.sub (.cons (show Pick _ ⟨g1, cells1, 41, (0, 0)⟩ _ by (repeat first | exact .head _ _ | apply Pick.tail)) (.cons (show Pick _ ⟨g2, cells2, 9, (0, 0)⟩ _ by (repeat first | exact .head _ _ | apply Pick.tail)) (.nil _)))
                      clear hTa1 hTw1
                      go_roundw
                      case rel =>
                       have hpp := (hperm.out.symm.cons (⟨.slice a2 m2 k2, L, b⟩ : Ct)).trans (List.perm_append_singleton _ _).symm
                       refine ⟨j + 1, s2, B2, cs ++ [⟨.slice a2 m2 k2, L, b⟩], _, _, _, _, by omega, by go_num, rfl, rfl, hle.trans hl2, hc2.perm hpp, hI2.perm hpp, hid_ (by rw [List.length_append, List.length_singleton]; have := hjl.out; omega), hid_ (fun d hd => ?_), hTa2, hTw2, hM2⟩
                       rcases List.mem_append.1 hd with hd | hd
                       · have := hdl.out d hd; omega
                       · rw [List.mem_singleton] at hd
                         subst hd
                         simp only
                         omega
                      case measure => simp [intOf]; omega
                   · as_aux_lemma =>
                      apply al_one (hM := hM) (v := .string ⟨b.toArray⟩) (ht := sl66); rfl; rfl; rfl; rfl
                      clear hM
                      intro gq2 w8 hM
                      clear hS
                      have hS := (show Mem B2 _ [] [⟨gC, #[.slice a2 m2 k2, .int .i64 (b.length : Nat)], 41, (0, 0)⟩, ⟨gO, #[.int .i64 ok_, .int .i64 op_, .int .i64 oa_, .int .i64 on_, .slice tb td.length tc], 68, (0, 0)⟩] from (hM.swap.none.swap.sub (.cons (by (repeat first | exact .head _ _ | apply Pick.tail)) (.cons (by (repeat first | exact .head _ _ | apply Pick.tail)) (.nil _)))))
                      refine ⟨hS, ?_⟩
                      simp only [q0, q9, q1, q2, q3]
                      refine reg_step 3 (by kernel_rfl) rfl ?_
                      apply tb_app_p (gq := gq) (es := [.slice a2 m2 k2, .int .i64 (b.length : Nat)]) (hM := hM.perm (Pick.perm (b := ⟨gq, #[.slice a2 m2 k2, .int .i64 (b.length : Nat)], 41, (0, 0)⟩) (by (repeat first | exact .head _ _ | apply Pick.tail)))) (hA := (Pick.perm (b := ⟨ga, ca, 41, (0, 0)⟩) (by (repeat first | exact .head _ _ | apply Pick.tail))).trans (List.perm_append_singleton _ _).symm) (hT := hTa) (ht := sl44); rfl; rfl; rfl; rfl; rfl; rfl; rfl; decide; omega; omega
                      intro g1 c1 n1 cells1 w8 hn_g1 hTa1 hM1
                      clear hM
                      simp only [List.cons_append, List.nil_append] at hM1
                      have hM := hM1
                      clear hM1
                      clear hS
                      have hS := (show Mem B2 _ [] [⟨gC, #[.slice a2 m2 k2, .int .i64 (b.length : Nat)], 41, (0, 0)⟩, ⟨gO, #[.int .i64 ok_, .int .i64 op_, .int .i64 oa_, .int .i64 on_, .slice tb td.length tc], 68, (0, 0)⟩] from (hM.swap.none.swap.sub (.cons (by (repeat first | exact .head _ _ | apply Pick.tail)) (.cons (by (repeat first | exact .head _ _ | apply Pick.tail)) (.nil _)))))
                      refine ⟨hS, ?_⟩
                      simp only [q0, q9, q1, q2, q3]
                      refine reg_step 10 (by kernel_rfl) rfl ?_
                      apply tb_app_p (gq := gq2) (es := [.string ⟨b.toArray⟩]) (hM := hM.perm (Pick.perm (b := ⟨gq2, #[.string ⟨b.toArray⟩], 9, (0, 0)⟩) (by (repeat first | exact .head _ _ | apply Pick.tail)))) (hA := (Pick.perm (b := ⟨gw, cw, 9, (0, 0)⟩) (by (repeat first | exact .head _ _ | apply Pick.tail))).trans (List.perm_append_singleton _ _).symm) (hT := hTw) (ht := sl66); rfl; rfl; rfl; rfl; rfl; rfl; rfl; decide; omega; omega
                      intro g2 c2 n2 cells2 w8 hn_g2 hTw1 hM1
                      clear hM
                      simp only [List.cons_append, List.nil_append] at hM1
                      have hM := hM1
                      clear hM1
                      clear hS
                      have hS := (show Mem B2 _ [] [⟨gC, #[.slice a2 m2 k2, .int .i64 (b.length : Nat)], 41, (0, 0)⟩, ⟨gO, #[.int .i64 ok_, .int .i64 op_, .int .i64 oa_, .int .i64 on_, .slice tb td.length tc], 68, (0, 0)⟩] from (hM.swap.none.swap.sub (.cons (by (repeat first | exact .head _ _ | apply Pick.tail)) (.cons (by (repeat first | exact .head _ _ | apply Pick.tail)) (.nil _)))))
                      refine ⟨hS, ?_⟩
                      simp only [q0, q9, q1, q2, q3]
                      refine rf 11 (.slice (some ⟨g1, 0, none⟩) n1 c1) hS ?_
                      simp only [q0, q9, q1, q2, q3]
                      refine rf 12 (.slice (some ⟨g2, 0, none⟩) n2 c2) hS ?_
                      simp only [q0, q9, q1, q2, q3]
                      refine reg_done (by kernel_rfl) ?_
                      clear hS
                      go_wp2_with ((with_reducible refine wpl ?_); (first | (apply al_box (hM := hM); rfl; rfl; (first | (focus (go_simp; done)) | (focus (go_simp; rfl))); clear hM; intro gb w1 hM; dsimp only [Value.cells] at hM) | (apply al_zero (hM := hM); rfl; rfl; (first | exact zero41 | exact zero68); clear hM; intro gz w1 hM; dsimp only [Value.cells] at hM) | (apply ld_row (hM := hM); rfl; rfl; rfl; (repeat first | exact .head _ _ | apply Pick.tail); (first | exact row41 | exact row68)) | (apply st_row (hM := hM); rfl; rfl; rfl; (first | (focus (go_simp; done)) | (focus (go_simp; rfl))); (repeat first | exact .head _ _ | apply Pick.tail); rfl; rfl; (first | exact row41 | exact row68); intro w1 hM1; clear hM; (try simp only [q1, q2, q3] at hM1); (try rw [tab_setInt] at hM1);  have hM := hM1; clear hM1) | (apply ld_one (hM := hM); rfl; rfl; rfl; (repeat first | exact .head _ _ | apply Pick.tail); rfl; (first | exact one3 | exact one39 | exact one22 | exact one9)) | (apply st_cell (hM := hM); rfl; rfl; rfl; (first | (focus (go_simp; done)) | (focus (go_simp; rfl))); (repeat first | exact .head _ _ | apply Pick.tail); simp; rfl; (first | exact one3 | exact one39 | exact one22 | exact one9); intro w1 hM1; clear hM; (try simp only [q1, q2, q3] at hM1); (try rw [tab_setInt] at hM1);  have hM := hM1; clear hM1)); simp only [q0, q9, q1, q2, q3])
                      have hTa2 := hTa1
                      have hTw2 := hTw1
                      have e1 := flat_app ctc cs (⟨.slice a2 m2 k2, L, b⟩ : Ct)
                      rw [show ctc (⟨.slice a2 m2 k2, L, b⟩ : Ct) = [Value.slice a2 m2 k2, .int .i64 (b.length : Nat)] from rfl] at e1
                      rw [e1] at hTa2
                      have e2 := flat_app cws cs (⟨.slice a2 m2 k2, L, b⟩ : Ct)
                      rw [show cws (⟨.slice a2 m2 k2, L, b⟩ : Ct) = [Value.string ⟨b.toArray⟩] from rfl] at e2
                      rw [e2] at hTw2
                      clear e1 e2
                      have hM2 := hM.sub (.cons (show Pick _ ⟨g1, cells1, 41, (0, 0)⟩ _ by (repeat first | exact .head _ _ | apply Pick.tail)) (.cons (show Pick _ ⟨g2, cells2, 9, (0, 0)⟩ _ by (repeat first | exact .head _ _ | apply Pick.tail)) (.nil _)))
                      clear hTa1 hTw1
                      go_roundw
                      case rel =>
                       have hpp := (hperm.out.symm.cons (⟨.slice a2 m2 k2, L, b⟩ : Ct)).trans (List.perm_append_singleton _ _).symm
                       refine ⟨j + 1, s2, B2, cs ++ [⟨.slice a2 m2 k2, L, b⟩], _, _, _, _, by omega, by go_num, rfl, rfl, hle.trans hl2, hc2.perm hpp, hI2.perm hpp, hid_ (by rw [List.length_append, List.length_singleton]; have := hjl.out; omega), hid_ (fun d hd => ?_), hTa2, hTw2, hM2⟩
                       rcases List.mem_append.1 hd with hd | hd
                       · have := hdl.out d hd; omega
                       · rw [List.mem_singleton] at hd
                         subst hd
                         simp only
                         omega
                      case measure => simp [intOf]; omega
                · as_aux_lemma =>
                   apply al_one (hM := hM) (v := .string ⟨b.toArray⟩) (ht := sl66); rfl; rfl; rfl; rfl
                   clear hM
                   intro gq2 w8 hM
                   clear hS
                   have hS := (show Mem B2 _ [] [⟨gC, #[.slice a2 m2 k2, .int .i64 (b.length : Nat)], 41, (0, 0)⟩, ⟨gO, #[.int .i64 ok_, .int .i64 op_, .int .i64 oa_, .int .i64 on_, .slice tb td.length tc], 68, (0, 0)⟩] from (hM.swap.none.swap.sub (.cons (by (repeat first | exact .head _ _ | apply Pick.tail)) (.cons (by (repeat first | exact .head _ _ | apply Pick.tail)) (.nil _)))))
                   refine ⟨hS, ?_⟩
                   simp only [q0, q9, q1, q2, q3]
                   refine reg_step 2 (by kernel_rfl) rfl ?_
                   apply al_elem (hM := hM) (ht := sl44) (v := .agg #[.slice a2 m2 k2, .int .i64 (b.length : Nat)]) (cells := #[.slice a2 m2 k2, .int .i64 (b.length : Nat)]); rfl; rfl; decide; rfl; simp [Instr.fill, Value.cells, Array.range_succ, Array.range_zero']
                   clear hM
                   intro gq w8 hM
                   clear hS
                   have hS := (show Mem B2 _ [] [⟨gC, #[.slice a2 m2 k2, .int .i64 (b.length : Nat)], 41, (0, 0)⟩, ⟨gO, #[.int .i64 ok_, .int .i64 op_, .int .i64 oa_, .int .i64 on_, .slice tb td.length tc], 68, (0, 0)⟩] from (hM.swap.none.swap.sub (.cons (by (repeat first | exact .head _ _ | apply Pick.tail)) (.cons (by (repeat first | exact .head _ _ | apply Pick.tail)) (.nil _)))))
                   refine ⟨hS, ?_⟩
                   simp only [q0, q9, q1, q2, q3]
                   refine reg_step 3 (by kernel_rfl) rfl ?_
                   apply tb_app_p (gq := gq) (es := [.slice a2 m2 k2, .int .i64 (b.length : Nat)]) (hM := hM.perm (Pick.perm (b := ⟨gq, #[.slice a2 m2 k2, .int .i64 (b.length : Nat)], 41, (0, 0)⟩) (by (repeat first | exact .head _ _ | apply Pick.tail)))) (hA := (Pick.perm (b := ⟨ga, ca, 41, (0, 0)⟩) (by (repeat first | exact .head _ _ | apply Pick.tail))).trans (List.perm_append_singleton _ _).symm) (hT := hTa) (ht := sl44); rfl; rfl; rfl; rfl; rfl; rfl; rfl; decide; omega; omega
                   intro g1 c1 n1 cells1 w8 hn_g1 hTa1 hM1
                   clear hM
                   simp only [List.cons_append, List.nil_append] at hM1
                   have hM := hM1
                   clear hM1
                   clear hS
                   have hS := (show Mem B2 _ [] [⟨gC, #[.slice a2 m2 k2, .int .i64 (b.length : Nat)], 41, (0, 0)⟩, ⟨gO, #[.int .i64 ok_, .int .i64 op_, .int .i64 oa_, .int .i64 on_, .slice tb td.length tc], 68, (0, 0)⟩] from (hM.swap.none.swap.sub (.cons (by (repeat first | exact .head _ _ | apply Pick.tail)) (.cons (by (repeat first | exact .head _ _ | apply Pick.tail)) (.nil _)))))
                   refine ⟨hS, ?_⟩
                   simp only [q0, q9, q1, q2, q3]
                   refine reg_step 10 (by kernel_rfl) rfl ?_
                   apply tb_app_p (gq := gq2) (es := [.string ⟨b.toArray⟩]) (hM := hM.perm (Pick.perm (b := ⟨gq2, #[.string ⟨b.toArray⟩], 9, (0, 0)⟩) (by (repeat first | exact .head _ _ | apply Pick.tail)))) (hA := (Pick.perm (b := ⟨gw, cw, 9, (0, 0)⟩) (by (repeat first | exact .head _ _ | apply Pick.tail))).trans (List.perm_append_singleton _ _).symm) (hT := hTw) (ht := sl66); rfl; rfl; rfl; rfl; rfl; rfl; rfl; decide; omega; omega
                   intro g2 c2 n2 cells2 w8 hn_g2 hTw1 hM1
                   clear hM
                   simp only [List.cons_append, List.nil_append] at hM1
                   have hM := hM1
                   clear hM1
                   clear hS
                   have hS := (show Mem B2 _ [] [⟨gC, #[.slice a2 m2 k2, .int .i64 (b.length : Nat)], 41, (0, 0)⟩, ⟨gO, #[.int .i64 ok_, .int .i64 op_, .int .i64 oa_, .int .i64 on_, .slice tb td.length tc], 68, (0, 0)⟩] from (hM.swap.none.swap.sub (.cons (by (repeat first | exact .head _ _ | apply Pick.tail)) (.cons (by (repeat first | exact .head _ _ | apply Pick.tail)) (.nil _)))))
                   refine ⟨hS, ?_⟩
                   simp only [q0, q9, q1, q2, q3]
                   refine rf 11 (.slice (some ⟨g1, 0, none⟩) n1 c1) hS ?_
                   simp only [q0, q9, q1, q2, q3]
                   refine rf 12 (.slice (some ⟨g2, 0, none⟩) n2 c2) hS ?_
                   simp only [q0, q9, q1, q2, q3]
                   refine reg_done (by kernel_rfl) ?_
                   clear hS
                   go_wp2_with ((with_reducible refine wpl ?_); (first | (apply al_box (hM := hM); rfl; rfl; (first | (focus (go_simp; done)) | (focus (go_simp; rfl))); clear hM; intro gb w1 hM; dsimp only [Value.cells] at hM) | (apply al_zero (hM := hM); rfl; rfl; (first | exact zero41 | exact zero68); clear hM; intro gz w1 hM; dsimp only [Value.cells] at hM) | (apply ld_row (hM := hM); rfl; rfl; rfl; (repeat first | exact .head _ _ | apply Pick.tail); (first | exact row41 | exact row68)) | (apply st_row (hM := hM); rfl; rfl; rfl; (first | (focus (go_simp; done)) | (focus (go_simp; rfl))); (repeat first | exact .head _ _ | apply Pick.tail); rfl; rfl; (first | exact row41 | exact row68); intro w1 hM1; clear hM; (try simp only [q1, q2, q3] at hM1); (try rw [tab_setInt] at hM1);  have hM := hM1; clear hM1) | (apply ld_one (hM := hM); rfl; rfl; rfl; (repeat first | exact .head _ _ | apply Pick.tail); rfl; (first | exact one3 | exact one39 | exact one22 | exact one9)) | (apply st_cell (hM := hM); rfl; rfl; rfl; (first | (focus (go_simp; done)) | (focus (go_simp; rfl))); (repeat first | exact .head _ _ | apply Pick.tail); simp; rfl; (first | exact one3 | exact one39 | exact one22 | exact one9); intro w1 hM1; clear hM; (try simp only [q1, q2, q3] at hM1); (try rw [tab_setInt] at hM1);  have hM := hM1; clear hM1)); simp only [q0, q9, q1, q2, q3])
                   have hTa2 := hTa1
                   have hTw2 := hTw1
                   have e1 := flat_app ctc cs (⟨.slice a2 m2 k2, L, b⟩ : Ct)
                   rw [show ctc (⟨.slice a2 m2 k2, L, b⟩ : Ct) = [Value.slice a2 m2 k2, .int .i64 (b.length : Nat)] from rfl] at e1
                   rw [e1] at hTa2
                   have e2 := flat_app cws cs (⟨.slice a2 m2 k2, L, b⟩ : Ct)
                   rw [show cws (⟨.slice a2 m2 k2, L, b⟩ : Ct) = [Value.string ⟨b.toArray⟩] from rfl] at e2
                   rw [e2] at hTw2
                   clear e1 e2
                   have hM2 := hM.sub (.cons (show Pick _ ⟨g1, cells1, 41, (0, 0)⟩ _ by (repeat first | exact .head _ _ | apply Pick.tail)) (.cons (show Pick _ ⟨g2, cells2, 9, (0, 0)⟩ _ by (repeat first | exact .head _ _ | apply Pick.tail)) (.nil _)))
                   clear hTa1 hTw1
                   go_roundw
                   case rel =>
                    have hpp := (hperm.out.symm.cons (⟨.slice a2 m2 k2, L, b⟩ : Ct)).trans (List.perm_append_singleton _ _).symm
                    refine ⟨j + 1, s2, B2, cs ++ [⟨.slice a2 m2 k2, L, b⟩], _, _, _, _, by omega, by go_num, rfl, rfl, hle.trans hl2, hc2.perm hpp, hI2.perm hpp, hid_ (by rw [List.length_append, List.length_singleton]; have := hjl.out; omega), hid_ (fun d hd => ?_), hTa2, hTw2, hM2⟩
                    rcases List.mem_append.1 hd with hd | hd
                    · have := hdl.out d hd; omega
                    · rw [List.mem_singleton] at hd
                      subst hd
                      simp only
                      omega
                   case measure => simp [intOf]; omega
          by_cases hk : ok_ = 2
          · have s0 : (ok_ == 0) = false := beq_eq_false_iff_ne.2 (by omega)
            have s1 : (ok_ == 1) = false := beq_eq_false_iff_ne.2 (by omega)
            have s2 : (ok_ == 2) = true := beq_iff_eq.2 hk
            clear hk
            as_aux_lemma =>
             go_wp2_with ((with_reducible refine wpl ?_); (first | (apply ld_at (hM := hM) [.slice xa L.length xk, .int .i64 (b.length : Nat)]; rfl; rfl; rfl; (repeat first | exact .head _ _ | apply Pick.tail); exact hela.out; exact row41) | (apply al_box (hM := hM); rfl; rfl; (first | (focus (go_simp; done)) | (focus (go_simp; rfl))); clear hM; intro gb w1 hM; dsimp only [Value.cells] at hM) | (apply al_zero (hM := hM); rfl; rfl; (first | exact zero41 | exact zero68); clear hM; intro gz w1 hM; dsimp only [Value.cells] at hM) | (apply ld_row (hM := hM); rfl; rfl; rfl; (repeat first | exact .head _ _ | apply Pick.tail); (first | exact row41 | exact row68)) | (apply st_row (hM := hM); rfl; rfl; rfl; (first | (focus (go_simp; done)) | (focus (go_simp; rfl))); (repeat first | exact .head _ _ | apply Pick.tail); rfl; rfl; (first | exact row41 | exact row68); intro w1 hM1; clear hM; (try simp only [q1, q2, q3] at hM1); (try rw [tab_setInt] at hM1);  have hM := hM1; clear hM1) | (apply ld_one (hM := hM); rfl; rfl; rfl; (repeat first | exact .head _ _ | apply Pick.tail); rfl; (first | exact one3 | exact one39 | exact one22 | exact one9)) | (apply st_cell (hM := hM); rfl; rfl; rfl; (first | (focus (go_simp; done)) | (focus (go_simp; rfl))); (repeat first | exact .head _ _ | apply Pick.tail); simp; rfl; (first | exact one3 | exact one39 | exact one22 | exact one9); intro w1 hM1; clear hM; (try simp only [q1, q2, q3] at hM1); (try rw [tab_setInt] at hM1);  have hM := hM1; clear hM1)); simp only [q0, q9, q1, q2, q3])
             refine (cdrop (c := ⟨.slice xa L.length xk, L, b⟩) (v := (b.length : Nat)) hM hc1 hI1 (by simp only; omega) rfl).mono ?_
             clear hM
             rintro e w4 ⟨s2, rfl, hM, hc2⟩
             go_wp2_with ((with_reducible refine wpl ?_); (first | (apply al_box (hM := hM); rfl; rfl; (first | (focus (go_simp; done)) | (focus (go_simp; rfl))); clear hM; intro gb w1 hM; dsimp only [Value.cells] at hM) | (apply al_zero (hM := hM); rfl; rfl; (first | exact zero41 | exact zero68); clear hM; intro gz w1 hM; dsimp only [Value.cells] at hM) | (apply ld_row (hM := hM); rfl; rfl; rfl; (repeat first | exact .head _ _ | apply Pick.tail); (first | exact row41 | exact row68)) | (apply st_row (hM := hM); rfl; rfl; rfl; (first | (focus (go_simp; done)) | (focus (go_simp; rfl))); (repeat first | exact .head _ _ | apply Pick.tail); rfl; rfl; (first | exact row41 | exact row68); intro w1 hM1; clear hM; (try simp only [q1, q2, q3] at hM1); (try rw [tab_setInt] at hM1);  have hM := hM1; clear hM1) | (apply ld_one (hM := hM); rfl; rfl; rfl; (repeat first | exact .head _ _ | apply Pick.tail); rfl; (first | exact one3 | exact one39 | exact one22 | exact one9)) | (apply st_cell (hM := hM); rfl; rfl; rfl; (first | (focus (go_simp; done)) | (focus (go_simp; rfl))); (repeat first | exact .head _ _ | apply Pick.tail); simp; rfl; (first | exact one3 | exact one39 | exact one22 | exact one9); intro w1 hM1; clear hM; (try simp only [q1, q2, q3] at hM1); (try rw [tab_setInt] at hM1);  have hM := hM1; clear hM1)); simp only [q0, q9, q1, q2, q3])
             have hwr1 : IntKind.i64.wrap ((i : Int) + 1) = (i : Int) + 1 := IntWalk.i64_in _ (by omega)
             refine reg_begin (fun w' => Mem B w' [] [⟨gO, #[.int .i64 ok_, .int .i64 op_, .int .i64 oa_, .int .i64 on_, .slice tb td.length tc], 68, (0, 0)⟩]) (by kernel_rfl) hM (fun wd hMd => ?_)
             clear hM
             have hM := hMd
             clear hMd
             have hS := (show Mem B _ [] [⟨gO, #[.int .i64 ok_, .int .i64 op_, .int .i64 oa_, .int .i64 on_, .slice tb td.length tc], 68, (0, 0)⟩] from (hM.swap.none.swap.sub (.cons (by (repeat first | exact .head _ _ | apply Pick.tail)) (.nil _))))
             refine rf 0 (.slice (some ⟨ga, 0, none⟩) an ac) hS ?_
             simp only [q0, q9, q1, q2, q3]
             refine rf 1 (.int .i64 (i : Nat)) hS ?_
             simp only [q0, q9, q1, q2, q3]
             refine rv 2 (.slice (some ⟨ga, 0, none⟩) i ac) hS (fun w => run_sl_h w i rfl und44 has41 rfl rfl rfl (by omega)) ?_
             simp only [q0, q9, q1, q2, q3]
             refine rf 3 (.slice (some ⟨ga, 0, none⟩) an ac) hS ?_
             simp only [q0, q9, q1, q2, q3]
             refine rf 4 (.int .i64 (i : Nat)) hS ?_
             simp only [q0, q9, q1, q2, q3]
             refine rf 5 (.int .i64 ((i : Int) + 1)) hS ?_
             simp only [q0, q9, q1, q2, q3]
             refine reg_free 6 (v := .slice (cutAt (some ⟨ga, 0, none⟩) ac (i + 1) 2) (an - (i + 1)) (ac - (i + 1))) rfl (by kernel_rfl) (by kernel_rfl) (by kernel_rfl) (fun _ _ _ h => h) (by (first | exact want_none rfl | exact want_some rfl rfl rfl rfl)) (fun w => by exact run_sl_l w (i + 1) rfl und44 size41 rfl rfl (by omega) (by omega)) hS ?_
             simp only [q0, q9, q1, q2, q3]
             refine rf 8 (.slice (some ⟨gw, 0, none⟩) wn wc) hS ?_
             simp only [q0, q9, q1, q2, q3]
             refine rf 9 (.int .i64 (i : Nat)) hS ?_
             simp only [q0, q9, q1, q2, q3]
             refine rv 10 (.slice (some ⟨gw, 0, none⟩) i wc) hS (fun w => run_sl_h w i rfl und66 has9 rfl rfl rfl (by omega)) ?_
             simp only [q0, q9, q1, q2, q3]
             refine rf 11 (.slice (some ⟨gw, 0, none⟩) wn wc) hS ?_
             simp only [q0, q9, q1, q2, q3]
             refine rf 12 (.int .i64 (i : Nat)) hS ?_
             simp only [q0, q9, q1, q2, q3]
             refine rf 13 (.int .i64 ((i : Int) + 1)) hS ?_
             simp only [q0, q9, q1, q2, q3]
             refine reg_free 14 (v := .slice (cutAt (some ⟨gw, 0, none⟩) wc (i + 1) 1) (wn - (i + 1)) (wc - (i + 1))) rfl (by kernel_rfl) (by kernel_rfl) (by kernel_rfl) (fun _ _ _ h => h) (by (first | exact want_none rfl | exact want_some rfl rfl rfl rfl)) (fun w => by exact run_sl_l w (i + 1) rfl und66 size9 rfl rfl (by omega) (by omega)) hS ?_
             simp only [q0, q9, q1, q2, q3]
             refine reg_step 7 (by kernel_rfl) rfl ?_
             apply tb_del (i := i) (n := an) (c := ac) (g := ga) (cells := ca) (F := cs.flatMap ctc) (ht := sl44) (hM := hM) (hp := by (repeat first | exact .head _ _ | apply Pick.tail)) (hi := hian) (hk := by decide) (hF := by rw [flat_len ctc 2 (ctc_len _), ← han.out]) (h1 := ctc_one hM hIs) (hcz := hca.out) (hcl := hacl) (hce := hcea.out); rfl; rfl; rfl; rfl; rfl
             clear hM
             intro dAc dAn w8 dAh dAT hM
             clear hS
             have hS := (show Mem B _ [] [⟨gO, #[.int .i64 ok_, .int .i64 op_, .int .i64 oa_, .int .i64 on_, .slice tb td.length tc], 68, (0, 0)⟩] from (hM.swap.none.swap.sub (.cons (by (repeat first | exact .head _ _ | apply Pick.tail)) (.nil _))))
             refine ⟨hS, ?_⟩
             simp only [q0, q9, q1, q2, q3]
             refine reg_step 15 (by kernel_rfl) rfl ?_
             apply tb_del (i := i) (n := wn) (c := wc) (g := gw) (cells := cw) (F := cs.flatMap cws) (ht := sl66) (hM := hM) (hp := by (repeat first | exact .head _ _ | apply Pick.tail)) (hi := hiwn) (hk := by decide) (hF := by rw [flat_len cws 1 (cws_len _), ← hwn.out]) (h1 := cws_one) (hcz := hcw.out) (hcl := hwcl) (hce := hcew.out); rfl; rfl; rfl; rfl; rfl
             clear hM
             intro dWc dWn w8 dWh dWT hM
             clear hS
             have hS := (show Mem B _ [] [⟨gO, #[.int .i64 ok_, .int .i64 op_, .int .i64 oa_, .int .i64 on_, .slice tb td.length tc], 68, (0, 0)⟩] from (hM.swap.none.swap.sub (.cons (by (repeat first | exact .head _ _ | apply Pick.tail)) (.nil _))))
             refine ⟨hS, ?_⟩
             simp only [q0, q9, q1, q2, q3]
             refine rf 16 (.slice (some ⟨ga, 0, none⟩) dAn ac) hS ?_
             simp only [q0, q9, q1, q2, q3]
             refine rf 17 (.slice (some ⟨gw, 0, none⟩) dWn wc) hS ?_
             simp only [q0, q9, q1, q2, q3]
             refine reg_done (by kernel_rfl) ?_
             clear hS hwr1
             go_wp2_with ((with_reducible refine wpl ?_); (first | (apply al_box (hM := hM); rfl; rfl; (first | (focus (go_simp; done)) | (focus (go_simp; rfl))); clear hM; intro gb w1 hM; dsimp only [Value.cells] at hM) | (apply al_zero (hM := hM); rfl; rfl; (first | exact zero41 | exact zero68); clear hM; intro gz w1 hM; dsimp only [Value.cells] at hM) | (apply ld_row (hM := hM); rfl; rfl; rfl; (repeat first | exact .head _ _ | apply Pick.tail); (first | exact row41 | exact row68)) | (apply st_row (hM := hM); rfl; rfl; rfl; (first | (focus (go_simp; done)) | (focus (go_simp; rfl))); (repeat first | exact .head _ _ | apply Pick.tail); rfl; rfl; (first | exact row41 | exact row68); intro w1 hM1; clear hM; (try simp only [q1, q2, q3] at hM1); (try rw [tab_setInt] at hM1);  have hM := hM1; clear hM1) | (apply ld_one (hM := hM); rfl; rfl; rfl; (repeat first | exact .head _ _ | apply Pick.tail); rfl; (first | exact one3 | exact one39 | exact one22 | exact one9)) | (apply st_cell (hM := hM); rfl; rfl; rfl; (first | (focus (go_simp; done)) | (focus (go_simp; rfl))); (repeat first | exact .head _ _ | apply Pick.tail); simp; rfl; (first | exact one3 | exact one39 | exact one22 | exact one9); intro w1 hM1; clear hM; (try simp only [q1, q2, q3] at hM1); (try rw [tab_setInt] at hM1);  have hM := hM1; clear hM1)); simp only [q0, q9, q1, q2, q3])
             have hTa2 := dAT
             have hTw2 := dWT
             rw [flat_erase ctc 2 (ctc_len _)] at hTa2
             rw [flat_erase cws 1 (cws_len _)] at hTw2
             have hM2 := hM.sub (.cons (show Pick _ ⟨ga, dAc, 41, (0, 0)⟩ _ by (repeat first | exact .head _ _ | apply Pick.tail)) (.cons (show Pick _ ⟨gw, dWc, 9, (0, 0)⟩ _ by (repeat first | exact .head _ _ | apply Pick.tail)) (.nil _)))
             clear dAT dWT
             go_roundw
             case rel =>
              refine ⟨j + 1, s2, B, cs.eraseIdx i, _, _, _, _, by omega, by go_num, rfl, rfl, hle, hc2, fun d hd => hIs d (List.mem_of_mem_eraseIdx hd), hid_ (by have h1 := hlenc.out; have h2 := hjl.out; omega), hid_ (fun d hd => by have := hdl.out d (List.mem_of_mem_eraseIdx hd); omega), hTa2, hTw2, hM2⟩
             case measure => simp [intOf]; omega
          by_cases hk : ok_ = 3
          · have s0 : (ok_ == 0) = false := beq_eq_false_iff_ne.2 (by omega)
            have s1 : (ok_ == 1) = false := beq_eq_false_iff_ne.2 (by omega)
            have s2 : (ok_ == 2) = false := beq_eq_false_iff_ne.2 (by omega)
            have s3 : (ok_ == 3) = true := beq_iff_eq.2 hk
            clear hk
            by_cases hg : 0 ≤ oa_ ∧ oa_ ≤ (b.length : Int) ∧ 0 ≤ on_ ∧ on_ ≤ (b.length : Int) - oa_
            · as_aux_lemma =>
               obtain ⟨q, rfl⟩ := Int.eq_ofNat_of_zero_le (a := oa_) hg.1
               obtain ⟨kk, rfl⟩ := Int.eq_ofNat_of_zero_le (a := on_) hg.2.2.1
               have hqk : q + kk ≤ b.length := by omega
               have y0 : decide ((q : Int) ≥ 0) = true := decide_eq_true (by omega)
               have y1 : decide ((q : Int) ≤ (b.length : Int)) = true := decide_eq_true (by omega)
               have y1n : decide (q ≤ b.length) = true := decide_eq_true (by omega)
               have y2 : decide ((kk : Int) ≥ 0) = true := decide_eq_true (by omega)
               have y3 : decide ((kk : Int) ≤ (b.length : Int) - (q : Int)) = true := decide_eq_true (by omega)
               have hwr3 : IntKind.i64.wrap ((b.length : Int) - (q : Int)) = (b.length : Int) - (q : Int) := IntWalk.i64_in _ (by omega)
               have hwr4 : IntKind.i64.wrap ((q : Int) + kk) = (q : Int) + kk := IntWalk.i64_in _ (by omega)
               clear hg
               go_wp2_with ((with_reducible refine wpl ?_); (first | (apply al_box (hM := hM); rfl; rfl; (first | (focus (go_simp; done)) | (focus (go_simp; rfl))); clear hM; intro gb w1 hM; dsimp only [Value.cells] at hM) | (apply al_zero (hM := hM); rfl; rfl; (first | exact zero41 | exact zero68); clear hM; intro gz w1 hM; dsimp only [Value.cells] at hM) | (apply ld_row (hM := hM); rfl; rfl; rfl; (repeat first | exact .head _ _ | apply Pick.tail); (first | exact row41 | exact row68)) | (apply st_row (hM := hM); rfl; rfl; rfl; (first | (focus (go_simp; done)) | (focus (go_simp; rfl))); (repeat first | exact .head _ _ | apply Pick.tail); rfl; rfl; (first | exact row41 | exact row68); intro w1 hM1; clear hM; (try simp only [q1, q2, q3] at hM1); (try rw [tab_setInt] at hM1);  have hM := hM1; clear hM1) | (apply ld_one (hM := hM); rfl; rfl; rfl; (repeat first | exact .head _ _ | apply Pick.tail); rfl; (first | exact one3 | exact one39 | exact one22 | exact one9)) | (apply st_cell (hM := hM); rfl; rfl; rfl; (first | (focus (go_simp; done)) | (focus (go_simp; rfl))); (repeat first | exact .head _ _ | apply Pick.tail); simp; rfl; (first | exact one3 | exact one39 | exact one22 | exact one9); intro w1 hM1; clear hM; (try simp only [q1, q2, q3] at hM1); (try rw [tab_setInt] at hM1);  have hM := hM1; clear hM1)); simp only [q0, q9, q1, q2, q3])
               refine reg_begin (fun w' => Mem B w' [] [⟨gO, #[.int .i64 ok_, .int .i64 op_, .int .i64 (q : Nat), .int .i64 (kk : Nat), .slice tb td.length tc], 68, (0, 0)⟩, ⟨ga, ca, 41, (0, 0)⟩, ⟨gw, cw, 9, (0, 0)⟩]) (by kernel_rfl) hM (fun wd hMd => ?_)
               clear hM
               have hM := hMd
               clear hMd
               have hS := hM.swap.none.swap
               refine rf 0 (own p) hS ?_
               simp only [q0, q9, q1, q2, q3]
               refine rf 1 (.slice (some ⟨ga, 0, none⟩) an ac) hS ?_
               simp only [q0, q9, q1, q2, q3]
               refine rf 2 (.int .i64 (i : Nat)) hS ?_
               simp only [q0, q9, q1, q2, q3]
               refine rf 3 (.pointer (some ⟨ga, i * 2, none⟩)) hS ?_
               simp only [q0, q9, q1, q2, q3]
               refine rg_row 4 [.slice xa L.length xk, .int .i64 (b.length : Nat)] rfl (by kernel_rfl) (by kernel_rfl) (by kernel_rfl) (fun _ _ _ h => h) (by rfl) rfl rfl (fun w' h' => h'.at_off (.tail (.head _ _)) _ hela.out) row41 hS ?_
               simp only [q0, q9, q1, q2, q3]
               refine rf 5 (.pointer (some ⟨gO, 2, none⟩)) hS ?_
               simp only [q0, q9, q1, q2, q3]
               refine rg_one 6 (v := .int .i64 (q : Nat)) rfl (by kernel_rfl) (by kernel_rfl) (by kernel_rfl) (fun _ _ _ h => h) (by rfl) rfl rfl (fun w' h' => (h'.cell (.head _ _) 2).trans rfl) one3 hS ?_
               simp only [q0, q9, q1, q2, q3]
               refine rf 7 (.pointer (some ⟨gO, 3, none⟩)) hS ?_
               simp only [q0, q9, q1, q2, q3]
               refine rg_one 8 (v := .int .i64 (kk : Nat)) rfl (by kernel_rfl) (by kernel_rfl) (by kernel_rfl) (fun _ _ _ h => h) (by rfl) rfl rfl (fun w' h' => (h'.cell (.head _ _) 3).trans rfl) one3 hS ?_
               simp only [q0, q9, q1, q2, q3]
               refine reg_step 9 (by kernel_rfl) rfl ?_
               refine call_fn rfl (by rfl) cf28 (cread (c := ⟨.slice xa L.length xk, L, b⟩) (v := (b.length : Nat)) (vq := (q : Nat)) (vk := (kk : Nat)) hM hc1 hI1 (List.mem_cons_self ..) (by simp only; omega) q kk hqk rfl rfl rfl) (by simp only [List.map_toArray, List.map_cons, List.map_nil]; rfl) ?_
               rintro e w4 ⟨g5, k5, cells5, rfl, hM1, hs5, hk5, hg5⟩
               clear hM
               have hg5 := hid_ hg5
               obtain ⟨B5, hl5, hM2, hr5⟩ := parkedB hM1 ((b.drop q).take kk) (by rw [List.length_take, List.length_drop]; omega) hk5 hg5.out
               clear hM1 hs5
               have hM := hM2
               clear hM2
               refine ⟨_, rfl, ?_⟩
               clear hS
               have hS := (hl5.mem hM).swap.none.swap
               refine ⟨hS, ?_⟩
               simp only [q0, q9, q1, q2, q3]
               refine rf 10 (.tuple #[.slice (some ⟨g5, 0, none⟩) kk k5, .int .i64 0]) hS ?_
               simp only [q0, q9, q1, q2, q3]
               refine rf 11 (.slice (some ⟨g5, 0, none⟩) kk k5) hS ?_
               simp only [q0, q9, q1, q2, q3]
               refine rf 12 (.int .i64 0) hS ?_
               simp only [q0, q9, q1, q2, q3]
               refine rf 13 (.slice (some ⟨g5, 0, none⟩) kk k5) hS ?_
               simp only [q0, q9, q1, q2, q3]
               refine rf 14 (.int .i64 0) hS ?_
               simp only [q0, q9, q1, q2, q3]
               refine reg_done (by kernel_rfl) ?_
               clear hS
               go_wp2_with ((with_reducible refine wpl ?_); (first | (apply al_box (hM := hM); rfl; rfl; (first | (focus (go_simp; done)) | (focus (go_simp; rfl))); clear hM; intro gb w1 hM; dsimp only [Value.cells] at hM) | (apply al_zero (hM := hM); rfl; rfl; (first | exact zero41 | exact zero68); clear hM; intro gz w1 hM; dsimp only [Value.cells] at hM) | (apply ld_row (hM := hM); rfl; rfl; rfl; (repeat first | exact .head _ _ | apply Pick.tail); (first | exact row41 | exact row68)) | (apply st_row (hM := hM); rfl; rfl; rfl; (first | (focus (go_simp; done)) | (focus (go_simp; rfl))); (repeat first | exact .head _ _ | apply Pick.tail); rfl; rfl; (first | exact row41 | exact row68); intro w1 hM1; clear hM; (try simp only [q1, q2, q3] at hM1); (try rw [tab_setInt] at hM1);  have hM := hM1; clear hM1) | (apply ld_one (hM := hM); rfl; rfl; rfl; (repeat first | exact .head _ _ | apply Pick.tail); rfl; (first | exact one3 | exact one39 | exact one22 | exact one9)) | (apply st_cell (hM := hM); rfl; rfl; rfl; (first | (focus (go_simp; done)) | (focus (go_simp; rfl))); (repeat first | exact .head _ _ | apply Pick.tail); simp; rfl; (first | exact one3 | exact one39 | exact one22 | exact one9); intro w1 hM1; clear hM; (try simp only [q1, q2, q3] at hM1); (try rw [tab_setInt] at hM1);  have hM := hM1; clear hM1)); simp only [q0, q9, q1, q2, q3])
               refine reg_begin (fun w' => Mem B5 w' [] [⟨gO, #[.int .i64 ok_, .int .i64 op_, .int .i64 (q : Nat), .int .i64 (kk : Nat), .slice tb td.length tc], 68, (0, 0)⟩, ⟨ga, ca, 41, (0, 0)⟩, ⟨gw, cw, 9, (0, 0)⟩]) (by kernel_rfl) hM (fun wd hMd => ?_)
               clear hM
               have hM := hMd
               clear hMd
               have hS := hM.swap.none.swap
               refine rf 0 (.pointer (some ⟨gO, 2, none⟩)) hS ?_
               simp only [q0, q9, q1, q2, q3]
               refine rg_one 1 (v := .int .i64 (q : Nat)) rfl (by kernel_rfl) (by kernel_rfl) (by kernel_rfl) (fun _ _ _ h => h) (by rfl) rfl rfl (fun w' h' => (h'.cell (.head _ _) 2).trans rfl) one3 hS ?_
               simp only [q0, q9, q1, q2, q3]
               refine rf 2 (.bool true) hS ?_
               simp only [q0, q9, q1, q2, q3]
               refine rf 3 (.bool true) hS ?_
               simp only [q0, q9, q1, q2, q3]
               refine rf 4 (.pointer (some ⟨gO, 2, none⟩)) hS ?_
               simp only [q0, q9, q1, q2, q3]
               refine rg_one 5 (v := .int .i64 (q : Nat)) rfl (by kernel_rfl) (by kernel_rfl) (by kernel_rfl) (fun _ _ _ h => h) (by rfl) rfl rfl (fun w' h' => (h'.cell (.head _ _) 2).trans rfl) one3 hS ?_
               simp only [q0, q9, q1, q2, q3]
               refine rf 6 (.slice (some ⟨gw, 0, none⟩) wn wc) hS ?_
               simp only [q0, q9, q1, q2, q3]
               refine rf 7 (.int .i64 (i : Nat)) hS ?_
               simp only [q0, q9, q1, q2, q3]
               refine rf 8 (.pointer (some ⟨gw, i, none⟩)) hS ?_
               simp only [q0, q9, q1, q2, q3]
               refine rg_one 9 (v := .string ⟨b.toArray⟩) rfl (by kernel_rfl) (by kernel_rfl) (by kernel_rfl) (fun _ _ _ h => h) (by rfl) rfl rfl (fun w' h' => (h'.cell (.tail (.tail (.head _ _))) i).trans helw.out) one9 hS ?_
               simp only [q0, q9, q1, q2, q3]
               refine rf 10 (.int .i64 (b.length : Nat)) hS ?_
               simp only [q0, q9, q1, q2, q3]
               refine rf 11 (.bool true) hS ?_
               simp only [q0, q9, q1, q2, q3]
               refine rf 12 (.bool true) hS ?_
               simp only [q0, q9, q1, q2, q3]
               refine rf 13 (.bool true) hS ?_
               simp only [q0, q9, q1, q2, q3]
               refine rf 14 (.pointer (some ⟨gO, 3, none⟩)) hS ?_
               simp only [q0, q9, q1, q2, q3]
               refine rg_one 15 (v := .int .i64 (kk : Nat)) rfl (by kernel_rfl) (by kernel_rfl) (by kernel_rfl) (fun _ _ _ h => h) (by rfl) rfl rfl (fun w' h' => (h'.cell (.head _ _) 3).trans rfl) one3 hS ?_
               simp only [q0, q9, q1, q2, q3]
               refine rf 16 (.bool true) hS ?_
               simp only [q0, q9, q1, q2, q3]
               refine rf 17 (.bool true) hS ?_
               simp only [q0, q9, q1, q2, q3]
               refine rf 18 (.bool true) hS ?_
               simp only [q0, q9, q1, q2, q3]
               refine rf 19 (.pointer (some ⟨gO, 3, none⟩)) hS ?_
               simp only [q0, q9, q1, q2, q3]
               refine rg_one 20 (v := .int .i64 (kk : Nat)) rfl (by kernel_rfl) (by kernel_rfl) (by kernel_rfl) (fun _ _ _ h => h) (by rfl) rfl rfl (fun w' h' => (h'.cell (.head _ _) 3).trans rfl) one3 hS ?_
               simp only [q0, q9, q1, q2, q3]
               refine rf 21 (.slice (some ⟨gw, 0, none⟩) wn wc) hS ?_
               simp only [q0, q9, q1, q2, q3]
               refine rf 22 (.int .i64 (i : Nat)) hS ?_
               simp only [q0, q9, q1, q2, q3]
               refine rf 23 (.pointer (some ⟨gw, i, none⟩)) hS ?_
               simp only [q0, q9, q1, q2, q3]
               refine rg_one 24 (v := .string ⟨b.toArray⟩) rfl (by kernel_rfl) (by kernel_rfl) (by kernel_rfl) (fun _ _ _ h => h) (by rfl) rfl rfl (fun w' h' => (h'.cell (.tail (.tail (.head _ _))) i).trans helw.out) one9 hS ?_
               simp only [q0, q9, q1, q2, q3]
               refine rf 25 (.int .i64 (b.length : Nat)) hS ?_
               simp only [q0, q9, q1, q2, q3]
               refine rf 26 (.pointer (some ⟨gO, 2, none⟩)) hS ?_
               simp only [q0, q9, q1, q2, q3]
               refine rg_one 27 (v := .int .i64 (q : Nat)) rfl (by kernel_rfl) (by kernel_rfl) (by kernel_rfl) (fun _ _ _ h => h) (by rfl) rfl rfl (fun w' h' => (h'.cell (.head _ _) 2).trans rfl) one3 hS ?_
               simp only [q0, q9, q1, q2, q3]
               refine rf 28 (.int .i64 ((b.length : Int) - (q : Nat))) hS ?_
               simp only [q0, q9, q1, q2, q3]
               refine rf 29 (.bool true) hS ?_
               simp only [q0, q9, q1, q2, q3]
               refine rf 30 (.bool true) hS ?_
               simp only [q0, q9, q1, q2, q3]
               refine rf 31 (.bool true) hS ?_
               simp only [q0, q9, q1, q2, q3]
               refine reg_done (by kernel_rfl) ?_
               clear hS
               go_wp2_with ((with_reducible refine wpl ?_); (first | (apply al_box (hM := hM); rfl; rfl; (first | (focus (go_simp; done)) | (focus (go_simp; rfl))); clear hM; intro gb w1 hM; dsimp only [Value.cells] at hM) | (apply al_zero (hM := hM); rfl; rfl; (first | exact zero41 | exact zero68); clear hM; intro gz w1 hM; dsimp only [Value.cells] at hM) | (apply ld_row (hM := hM); rfl; rfl; rfl; (repeat first | exact .head _ _ | apply Pick.tail); (first | exact row41 | exact row68)) | (apply st_row (hM := hM); rfl; rfl; rfl; (first | (focus (go_simp; done)) | (focus (go_simp; rfl))); (repeat first | exact .head _ _ | apply Pick.tail); rfl; rfl; (first | exact row41 | exact row68); intro w1 hM1; clear hM; (try simp only [q1, q2, q3] at hM1); (try rw [tab_setInt] at hM1);  have hM := hM1; clear hM1) | (apply ld_one (hM := hM); rfl; rfl; rfl; (repeat first | exact .head _ _ | apply Pick.tail); rfl; (first | exact one3 | exact one39 | exact one22 | exact one9)) | (apply st_cell (hM := hM); rfl; rfl; rfl; (first | (focus (go_simp; done)) | (focus (go_simp; rfl))); (repeat first | exact .head _ _ | apply Pick.tail); simp; rfl; (first | exact one3 | exact one39 | exact one22 | exact one9); intro w1 hM1; clear hM; (try simp only [q1, q2, q3] at hM1); (try rw [tab_setInt] at hM1);  have hM := hM1; clear hM1)); simp only [q0, q9, q1, q2, q3])
               refine reg_begin (fun w' => Mem B5 w' [] [⟨gO, #[.int .i64 ok_, .int .i64 op_, .int .i64 (q : Nat), .int .i64 (kk : Nat), .slice tb td.length tc], 68, (0, 0)⟩, ⟨ga, ca, 41, (0, 0)⟩, ⟨gw, cw, 9, (0, 0)⟩]) (by kernel_rfl) hM (fun wd hMd => ?_)
               clear hM
               have hM := hMd
               clear hMd
               have hS := hM.swap.none.swap
               refine rf 0 (.int .i64 0) hS ?_
               simp only [q0, q9, q1, q2, q3]
               refine rf 1 (.bool true) hS ?_
               simp only [q0, q9, q1, q2, q3]
               refine rf 2 (.bool true) hS ?_
               simp only [q0, q9, q1, q2, q3]
               refine rf 3 (.bool false) hS ?_
               simp only [q0, q9, q1, q2, q3]
               refine rf 4 (.bool false) hS ?_
               simp only [q0, q9, q1, q2, q3]
               refine rf 5 (.bool true) hS ?_
               simp only [q0, q9, q1, q2, q3]
               refine rf 6 (.bool true) hS ?_
               simp only [q0, q9, q1, q2, q3]
               refine rf 7 (.slice (some ⟨g5, 0, none⟩) kk k5) hS ?_
               simp only [q0, q9, q1, q2, q3]
               refine rg_cv 8 (bs := (b.drop q).take kk) rfl (by kernel_rfl) (by kernel_rfl) (by kernel_rfl) (fun _ _ _ h => h) (by rfl) rfl und22 und5 und9 (fun w' h' => hr5 w' _ _ h') hS ?_
               simp only [q0, q9, q1, q2, q3]
               refine rf 9 (.slice (some ⟨gw, 0, none⟩) wn wc) hS ?_
               simp only [q0, q9, q1, q2, q3]
               refine rf 10 (.int .i64 (i : Nat)) hS ?_
               simp only [q0, q9, q1, q2, q3]
               refine rf 11 (.pointer (some ⟨gw, i, none⟩)) hS ?_
               simp only [q0, q9, q1, q2, q3]
               refine rg_one 12 (v := .string ⟨b.toArray⟩) rfl (by kernel_rfl) (by kernel_rfl) (by kernel_rfl) (fun _ _ _ h => h) (by rfl) rfl rfl (fun w' h' => (h'.cell (.tail (.tail (.head _ _))) i).trans helw.out) one9 hS ?_
               simp only [q0, q9, q1, q2, q3]
               refine rf 13 (.pointer (some ⟨gO, 2, none⟩)) hS ?_
               simp only [q0, q9, q1, q2, q3]
               refine rg_one 14 (v := .int .i64 (q : Nat)) rfl (by kernel_rfl) (by kernel_rfl) (by kernel_rfl) (fun _ _ _ h => h) (by rfl) rfl rfl (fun w' h' => (h'.cell (.head _ _) 2).trans rfl) one3 hS ?_
               simp only [q0, q9, q1, q2, q3]
               refine rf 15 (.pointer (some ⟨gO, 2, none⟩)) hS ?_
               simp only [q0, q9, q1, q2, q3]
               refine rg_one 16 (v := .int .i64 (q : Nat)) rfl (by kernel_rfl) (by kernel_rfl) (by kernel_rfl) (fun _ _ _ h => h) (by rfl) rfl rfl (fun w' h' => (h'.cell (.head _ _) 2).trans rfl) one3 hS ?_
               simp only [q0, q9, q1, q2, q3]
               refine rf 17 (.pointer (some ⟨gO, 3, none⟩)) hS ?_
               simp only [q0, q9, q1, q2, q3]
               refine rg_one 18 (v := .int .i64 (kk : Nat)) rfl (by kernel_rfl) (by kernel_rfl) (by kernel_rfl) (fun _ _ _ h => h) (by rfl) rfl rfl (fun w' h' => (h'.cell (.head _ _) 3).trans rfl) one3 hS ?_
               simp only [q0, q9, q1, q2, q3]
               refine rf 19 (.int .i64 ((q : Int) + kk)) hS ?_
               simp only [q0, q9, q1, q2, q3]
               refine rv 20 (.string ⟨((b.drop q).take kk).toArray⟩) hS (fun w => run_sl_part w q kk rfl und9 rfl rfl rfl rfl rfl (by omega)) ?_
               simp only [q0, q9, q1, q2, q3]
               refine rf 21 (.bool false) hS ?_
               simp only [q0, q9, q1, q2, q3]
               refine rf 22 (.bool false) hS ?_
               simp only [q0, q9, q1, q2, q3]
               refine rf 23 (.bool false) hS ?_
               simp only [q0, q9, q1, q2, q3]
               refine rf 24 (.bool false) hS ?_
               simp only [q0, q9, q1, q2, q3]
               refine rf 25 (.bool true) hS ?_
               simp only [q0, q9, q1, q2, q3]
               refine rf 26 (.bool false) hS ?_
               simp only [q0, q9, q1, q2, q3]
               refine rf 27 (.bool false) hS ?_
               simp only [q0, q9, q1, q2, q3]
               refine rk 28 hS ?_
               simp only [q0, q9, q1, q2, q3]
               refine rk 29 hS ?_
               simp only [q0, q9, q1, q2, q3]
               refine rf 30 (.bool false) hS ?_
               simp only [q0, q9, q1, q2, q3]
               refine rf 31 (.bool false) hS ?_
               simp only [q0, q9, q1, q2, q3]
               refine reg_done (by kernel_rfl) ?_
               clear hS
               go_wp2_with ((with_reducible refine wpl ?_); (first | (apply al_box (hM := hM); rfl; rfl; (first | (focus (go_simp; done)) | (focus (go_simp; rfl))); clear hM; intro gb w1 hM; dsimp only [Value.cells] at hM) | (apply al_zero (hM := hM); rfl; rfl; (first | exact zero41 | exact zero68); clear hM; intro gz w1 hM; dsimp only [Value.cells] at hM) | (apply ld_row (hM := hM); rfl; rfl; rfl; (repeat first | exact .head _ _ | apply Pick.tail); (first | exact row41 | exact row68)) | (apply st_row (hM := hM); rfl; rfl; rfl; (first | (focus (go_simp; done)) | (focus (go_simp; rfl))); (repeat first | exact .head _ _ | apply Pick.tail); rfl; rfl; (first | exact row41 | exact row68); intro w1 hM1; clear hM; (try simp only [q1, q2, q3] at hM1); (try rw [tab_setInt] at hM1);  have hM := hM1; clear hM1) | (apply ld_one (hM := hM); rfl; rfl; rfl; (repeat first | exact .head _ _ | apply Pick.tail); rfl; (first | exact one3 | exact one39 | exact one22 | exact one9)) | (apply st_cell (hM := hM); rfl; rfl; rfl; (first | (focus (go_simp; done)) | (focus (go_simp; rfl))); (repeat first | exact .head _ _ | apply Pick.tail); simp; rfl; (first | exact one3 | exact one39 | exact one22 | exact one9); intro w1 hM1; clear hM; (try simp only [q1, q2, q3] at hM1); (try rw [tab_setInt] at hM1);  have hM := hM1; clear hM1)); simp only [q0, q9, q1, q2, q3])
               go_roundw
               case rel => exact ⟨j + 1, ss, B5, cs, _, _, _, _, by omega, by go_num, rfl, rfl, hle.trans hl5, hcs, hIs.le hl5, hid_ (by have := hjl.out; omega), hid_ (fun d hd => by have := hdl.out d hd; omega), hTa, hTw, hM.tail⟩
               case measure => simp [intOf]; omega
            · by_cases b1 : oa_ < 0
              · as_aux_lemma =>
                 have hbad : oa_ < 0 ∨ (b.length : Int) < oa_ ∨ on_ < 0 ∨ (b.length : Int) - oa_ < on_ := by omega
                 have y0 : decide (oa_ ≥ 0) = false := decide_eq_false (by omega)
                 go_wp2_with ((with_reducible refine wpl ?_); (first | (apply al_box (hM := hM); rfl; rfl; (first | (focus (go_simp; done)) | (focus (go_simp; rfl))); clear hM; intro gb w1 hM; dsimp only [Value.cells] at hM) | (apply al_zero (hM := hM); rfl; rfl; (first | exact zero41 | exact zero68); clear hM; intro gz w1 hM; dsimp only [Value.cells] at hM) | (apply ld_row (hM := hM); rfl; rfl; rfl; (repeat first | exact .head _ _ | apply Pick.tail); (first | exact row41 | exact row68)) | (apply st_row (hM := hM); rfl; rfl; rfl; (first | (focus (go_simp; done)) | (focus (go_simp; rfl))); (repeat first | exact .head _ _ | apply Pick.tail); rfl; rfl; (first | exact row41 | exact row68); intro w1 hM1; clear hM; (try simp only [q1, q2, q3] at hM1); (try rw [tab_setInt] at hM1);  have hM := hM1; clear hM1) | (apply ld_one (hM := hM); rfl; rfl; rfl; (repeat first | exact .head _ _ | apply Pick.tail); rfl; (first | exact one3 | exact one39 | exact one22 | exact one9)) | (apply st_cell (hM := hM); rfl; rfl; rfl; (first | (focus (go_simp; done)) | (focus (go_simp; rfl))); (repeat first | exact .head _ _ | apply Pick.tail); simp; rfl; (first | exact one3 | exact one39 | exact one22 | exact one9); intro w1 hM1; clear hM; (try simp only [q1, q2, q3] at hM1); (try rw [tab_setInt] at hM1);  have hM := hM1; clear hM1)); simp only [q0, q9, q1, q2, q3])
                 refine reg_begin (fun w' => Mem B w' [] [⟨gO, #[.int .i64 ok_, .int .i64 op_, .int .i64 oa_, .int .i64 on_, .slice tb td.length tc], 68, (0, 0)⟩, ⟨ga, ca, 41, (0, 0)⟩, ⟨gw, cw, 9, (0, 0)⟩]) (by kernel_rfl) hM (fun wd hMd => ?_)
                 clear hM
                 have hM := hMd
                 clear hMd
                 have hS := hM.swap.none.swap
                 refine rf 0 (own p) hS ?_
                 simp only [q0, q9, q1, q2, q3]
                 refine rf 1 (.slice (some ⟨ga, 0, none⟩) an ac) hS ?_
                 simp only [q0, q9, q1, q2, q3]
                 refine rf 2 (.int .i64 (i : Nat)) hS ?_
                 simp only [q0, q9, q1, q2, q3]
                 refine rf 3 (.pointer (some ⟨ga, i * 2, none⟩)) hS ?_
                 simp only [q0, q9, q1, q2, q3]
                 refine rg_row 4 [.slice xa L.length xk, .int .i64 (b.length : Nat)] rfl (by kernel_rfl) (by kernel_rfl) (by kernel_rfl) (fun _ _ _ h => h) (by rfl) rfl rfl (fun w' h' => h'.at_off (.tail (.head _ _)) _ hela.out) row41 hS ?_
                 simp only [q0, q9, q1, q2, q3]
                 refine rf 5 (.pointer (some ⟨gO, 2, none⟩)) hS ?_
                 simp only [q0, q9, q1, q2, q3]
                 refine rg_one 6 (v := .int .i64 oa_) rfl (by kernel_rfl) (by kernel_rfl) (by kernel_rfl) (fun _ _ _ h => h) (by rfl) rfl rfl (fun w' h' => (h'.cell (.head _ _) 2).trans rfl) one3 hS ?_
                 simp only [q0, q9, q1, q2, q3]
                 refine rf 7 (.pointer (some ⟨gO, 3, none⟩)) hS ?_
                 simp only [q0, q9, q1, q2, q3]
                 refine rg_one 8 (v := .int .i64 on_) rfl (by kernel_rfl) (by kernel_rfl) (by kernel_rfl) (fun _ _ _ h => h) (by rfl) rfl rfl (fun w' h' => (h'.cell (.head _ _) 3).trans rfl) one3 hS ?_
                 simp only [q0, q9, q1, q2, q3]
                 refine reg_step 9 (by kernel_rfl) rfl ?_
                 refine call_fn rfl (by rfl) cf28 (cread_bad (c := ⟨.slice xa L.length xk, L, b⟩) (v := (b.length : Nat)) hM hc1 hI1 (List.mem_cons_self ..) (by simp only; omega) oa_ on_ hbad rfl) (by simp only [List.map_toArray, List.map_cons, List.map_nil]; rfl) ?_
                 clear hM
                 rintro e w4 ⟨rfl, hM⟩
                 refine ⟨_, rfl, ?_⟩
                 clear hS
                 have hS := hM.swap.none.swap
                 refine ⟨hS, ?_⟩
                 simp only [q0, q9, q1, q2, q3]
                 refine rf 10 (.tuple #[.slice none 0 0, .int .i64 1]) hS ?_
                 simp only [q0, q9, q1, q2, q3]
                 refine rf 11 (.slice none 0 0) hS ?_
                 simp only [q0, q9, q1, q2, q3]
                 refine rf 12 (.int .i64 1) hS ?_
                 simp only [q0, q9, q1, q2, q3]
                 refine rf 13 (.slice none 0 0) hS ?_
                 simp only [q0, q9, q1, q2, q3]
                 refine rf 14 (.int .i64 1) hS ?_
                 simp only [q0, q9, q1, q2, q3]
                 refine reg_done (by kernel_rfl) ?_
                 clear hS
                 go_wp2_with ((with_reducible refine wpl ?_); (first | (apply al_box (hM := hM); rfl; rfl; (first | (focus (go_simp; done)) | (focus (go_simp; rfl))); clear hM; intro gb w1 hM; dsimp only [Value.cells] at hM) | (apply al_zero (hM := hM); rfl; rfl; (first | exact zero41 | exact zero68); clear hM; intro gz w1 hM; dsimp only [Value.cells] at hM) | (apply ld_row (hM := hM); rfl; rfl; rfl; (repeat first | exact .head _ _ | apply Pick.tail); (first | exact row41 | exact row68)) | (apply st_row (hM := hM); rfl; rfl; rfl; (first | (focus (go_simp; done)) | (focus (go_simp; rfl))); (repeat first | exact .head _ _ | apply Pick.tail); rfl; rfl; (first | exact row41 | exact row68); intro w1 hM1; clear hM; (try simp only [q1, q2, q3] at hM1); (try rw [tab_setInt] at hM1);  have hM := hM1; clear hM1) | (apply ld_one (hM := hM); rfl; rfl; rfl; (repeat first | exact .head _ _ | apply Pick.tail); rfl; (first | exact one3 | exact one39 | exact one22 | exact one9)) | (apply st_cell (hM := hM); rfl; rfl; rfl; (first | (focus (go_simp; done)) | (focus (go_simp; rfl))); (repeat first | exact .head _ _ | apply Pick.tail); simp; rfl; (first | exact one3 | exact one39 | exact one22 | exact one9); intro w1 hM1; clear hM; (try simp only [q1, q2, q3] at hM1); (try rw [tab_setInt] at hM1);  have hM := hM1; clear hM1)); simp only [q0, q9, q1, q2, q3])
                 refine reg_begin (fun w' => Mem B w' [] [⟨gO, #[.int .i64 ok_, .int .i64 op_, .int .i64 oa_, .int .i64 on_, .slice tb td.length tc], 68, (0, 0)⟩, ⟨ga, ca, 41, (0, 0)⟩, ⟨gw, cw, 9, (0, 0)⟩]) (by kernel_rfl) hM (fun wd hMd => ?_)
                 clear hM
                 have hM := hMd
                 clear hMd
                 have hS := hM.swap.none.swap
                 refine rf 0 (.pointer (some ⟨gO, 2, none⟩)) hS ?_
                 simp only [q0, q9, q1, q2, q3]
                 refine rg_one 1 (v := .int .i64 oa_) rfl (by kernel_rfl) (by kernel_rfl) (by kernel_rfl) (fun _ _ _ h => h) (by rfl) rfl rfl (fun w' h' => (h'.cell (.head _ _) 2).trans rfl) one3 hS ?_
                 simp only [q0, q9, q1, q2, q3]
                 refine rf 2 (.bool false) hS ?_
                 simp only [q0, q9, q1, q2, q3]
                 refine rf 3 (.bool false) hS ?_
                 simp only [q0, q9, q1, q2, q3]
                 refine rk 4 hS ?_
                 simp only [q0, q9, q1, q2, q3]
                 refine rk 5 hS ?_
                 simp only [q0, q9, q1, q2, q3]
                 refine rk 6 hS ?_
                 simp only [q0, q9, q1, q2, q3]
                 refine rk 7 hS ?_
                 simp only [q0, q9, q1, q2, q3]
                 refine rk 8 hS ?_
                 simp only [q0, q9, q1, q2, q3]
                 refine rk 9 hS ?_
                 simp only [q0, q9, q1, q2, q3]
                 refine rk 10 hS ?_
                 simp only [q0, q9, q1, q2, q3]
                 refine rk 11 hS ?_
                 simp only [q0, q9, q1, q2, q3]
                 refine rf 12 (.bool false) hS ?_
                 simp only [q0, q9, q1, q2, q3]
                 refine rf 13 (.bool false) hS ?_
                 simp only [q0, q9, q1, q2, q3]
                 refine rk 14 hS ?_
                 simp only [q0, q9, q1, q2, q3]
                 refine rk 15 hS ?_
                 simp only [q0, q9, q1, q2, q3]
                 refine rk 16 hS ?_
                 simp only [q0, q9, q1, q2, q3]
                 refine rf 17 (.bool false) hS ?_
                 simp only [q0, q9, q1, q2, q3]
                 refine rf 18 (.bool false) hS ?_
                 simp only [q0, q9, q1, q2, q3]
                 refine rk 19 hS ?_
                 simp only [q0, q9, q1, q2, q3]
                 refine rk 20 hS ?_
                 simp only [q0, q9, q1, q2, q3]
                 refine rk 21 hS ?_
                 simp only [q0, q9, q1, q2, q3]
                 refine rk 22 hS ?_
                 simp only [q0, q9, q1, q2, q3]
                 refine rk 23 hS ?_
                 simp only [q0, q9, q1, q2, q3]
                 refine rk 24 hS ?_
                 simp only [q0, q9, q1, q2, q3]
                 refine rk 25 hS ?_
                 simp only [q0, q9, q1, q2, q3]
                 refine rk 26 hS ?_
                 simp only [q0, q9, q1, q2, q3]
                 refine rk 27 hS ?_
                 simp only [q0, q9, q1, q2, q3]
                 refine rk 28 hS ?_
                 simp only [q0, q9, q1, q2, q3]
                 refine rk 29 hS ?_
                 simp only [q0, q9, q1, q2, q3]
                 refine rf 30 (.bool false) hS ?_
                 simp only [q0, q9, q1, q2, q3]
                 refine rf 31 (.bool false) hS ?_
                 simp only [q0, q9, q1, q2, q3]
                 refine reg_done (by kernel_rfl) ?_
                 clear hS
                 go_wp2_with ((with_reducible refine wpl ?_); (first | (apply al_box (hM := hM); rfl; rfl; (first | (focus (go_simp; done)) | (focus (go_simp; rfl))); clear hM; intro gb w1 hM; dsimp only [Value.cells] at hM) | (apply al_zero (hM := hM); rfl; rfl; (first | exact zero41 | exact zero68); clear hM; intro gz w1 hM; dsimp only [Value.cells] at hM) | (apply ld_row (hM := hM); rfl; rfl; rfl; (repeat first | exact .head _ _ | apply Pick.tail); (first | exact row41 | exact row68)) | (apply st_row (hM := hM); rfl; rfl; rfl; (first | (focus (go_simp; done)) | (focus (go_simp; rfl))); (repeat first | exact .head _ _ | apply Pick.tail); rfl; rfl; (first | exact row41 | exact row68); intro w1 hM1; clear hM; (try simp only [q1, q2, q3] at hM1); (try rw [tab_setInt] at hM1);  have hM := hM1; clear hM1) | (apply ld_one (hM := hM); rfl; rfl; rfl; (repeat first | exact .head _ _ | apply Pick.tail); rfl; (first | exact one3 | exact one39 | exact one22 | exact one9)) | (apply st_cell (hM := hM); rfl; rfl; rfl; (first | (focus (go_simp; done)) | (focus (go_simp; rfl))); (repeat first | exact .head _ _ | apply Pick.tail); simp; rfl; (first | exact one3 | exact one39 | exact one22 | exact one9); intro w1 hM1; clear hM; (try simp only [q1, q2, q3] at hM1); (try rw [tab_setInt] at hM1);  have hM := hM1; clear hM1)); simp only [q0, q9, q1, q2, q3])
                 refine reg_begin (fun w' => Mem B w' [] [⟨gO, #[.int .i64 ok_, .int .i64 op_, .int .i64 oa_, .int .i64 on_, .slice tb td.length tc], 68, (0, 0)⟩, ⟨ga, ca, 41, (0, 0)⟩, ⟨gw, cw, 9, (0, 0)⟩]) (by kernel_rfl) hM (fun wd hMd => ?_)
                 clear hM
                 have hM := hMd
                 clear hMd
                 have hS := hM.swap.none.swap
                 refine rf 0 (.int .i64 1) hS ?_
                 simp only [q0, q9, q1, q2, q3]
                 refine rf 1 (.bool false) hS ?_
                 simp only [q0, q9, q1, q2, q3]
                 refine rf 2 (.bool false) hS ?_
                 simp only [q0, q9, q1, q2, q3]
                 refine rf 3 (.bool false) hS ?_
                 simp only [q0, q9, q1, q2, q3]
                 refine rf 4 (.bool false) hS ?_
                 simp only [q0, q9, q1, q2, q3]
                 refine rf 5 (.bool false) hS ?_
                 simp only [q0, q9, q1, q2, q3]
                 refine rf 6 (.bool false) hS ?_
                 simp only [q0, q9, q1, q2, q3]
                 refine rk 7 hS ?_
                 simp only [q0, q9, q1, q2, q3]
                 refine rk 8 hS ?_
                 simp only [q0, q9, q1, q2, q3]
                 refine rk 9 hS ?_
                 simp only [q0, q9, q1, q2, q3]
                 refine rk 10 hS ?_
                 simp only [q0, q9, q1, q2, q3]
                 refine rk 11 hS ?_
                 simp only [q0, q9, q1, q2, q3]
                 refine rk 12 hS ?_
                 simp only [q0, q9, q1, q2, q3]
                 refine rk 13 hS ?_
                 simp only [q0, q9, q1, q2, q3]
                 refine rk 14 hS ?_
                 simp only [q0, q9, q1, q2, q3]
                 refine rk 15 hS ?_
                 simp only [q0, q9, q1, q2, q3]
                 refine rk 16 hS ?_
                 simp only [q0, q9, q1, q2, q3]
                 refine rk 17 hS ?_
                 simp only [q0, q9, q1, q2, q3]
                 refine rk 18 hS ?_
                 simp only [q0, q9, q1, q2, q3]
                 refine rk 19 hS ?_
                 simp only [q0, q9, q1, q2, q3]
                 refine rk 20 hS ?_
                 simp only [q0, q9, q1, q2, q3]
                 refine rk 21 hS ?_
                 simp only [q0, q9, q1, q2, q3]
                 refine rf 22 (.bool false) hS ?_
                 simp only [q0, q9, q1, q2, q3]
                 refine rf 23 (.bool false) hS ?_
                 simp only [q0, q9, q1, q2, q3]
                 refine rf 24 (.bool false) hS ?_
                 simp only [q0, q9, q1, q2, q3]
                 refine rf 25 (.bool false) hS ?_
                 simp only [q0, q9, q1, q2, q3]
                 refine rf 26 (.bool true) hS ?_
                 simp only [q0, q9, q1, q2, q3]
                 refine rf 27 (.bool true) hS ?_
                 simp only [q0, q9, q1, q2, q3]
                 refine rf 28 (.int .i64 1) hS ?_
                 simp only [q0, q9, q1, q2, q3]
                 refine rf 29 (.bool false) hS ?_
                 simp only [q0, q9, q1, q2, q3]
                 refine rf 30 (.bool false) hS ?_
                 simp only [q0, q9, q1, q2, q3]
                 refine rf 31 (.bool false) hS ?_
                 simp only [q0, q9, q1, q2, q3]
                 refine reg_done (by kernel_rfl) ?_
                 clear hS
                 go_wp2_with ((with_reducible refine wpl ?_); (first | (apply al_box (hM := hM); rfl; rfl; (first | (focus (go_simp; done)) | (focus (go_simp; rfl))); clear hM; intro gb w1 hM; dsimp only [Value.cells] at hM) | (apply al_zero (hM := hM); rfl; rfl; (first | exact zero41 | exact zero68); clear hM; intro gz w1 hM; dsimp only [Value.cells] at hM) | (apply ld_row (hM := hM); rfl; rfl; rfl; (repeat first | exact .head _ _ | apply Pick.tail); (first | exact row41 | exact row68)) | (apply st_row (hM := hM); rfl; rfl; rfl; (first | (focus (go_simp; done)) | (focus (go_simp; rfl))); (repeat first | exact .head _ _ | apply Pick.tail); rfl; rfl; (first | exact row41 | exact row68); intro w1 hM1; clear hM; (try simp only [q1, q2, q3] at hM1); (try rw [tab_setInt] at hM1);  have hM := hM1; clear hM1) | (apply ld_one (hM := hM); rfl; rfl; rfl; (repeat first | exact .head _ _ | apply Pick.tail); rfl; (first | exact one3 | exact one39 | exact one22 | exact one9)) | (apply st_cell (hM := hM); rfl; rfl; rfl; (first | (focus (go_simp; done)) | (focus (go_simp; rfl))); (repeat first | exact .head _ _ | apply Pick.tail); simp; rfl; (first | exact one3 | exact one39 | exact one22 | exact one9); intro w1 hM1; clear hM; (try simp only [q1, q2, q3] at hM1); (try rw [tab_setInt] at hM1);  have hM := hM1; clear hM1)); simp only [q0, q9, q1, q2, q3])
                 go_roundw
                 case rel => exact ⟨j + 1, ss, B, cs, _, _, _, _, by omega, by go_num, rfl, rfl, hle, hcs, hIs, hid_ (by have := hjl.out; omega), hid_ (fun d hd => by have := hdl.out d hd; omega), hTa, hTw, hM.tail⟩
                 case measure => simp [intOf]; omega
              by_cases b2 : (b.length : Int) < oa_
              · as_aux_lemma =>
                 have hbad : oa_ < 0 ∨ (b.length : Int) < oa_ ∨ on_ < 0 ∨ (b.length : Int) - oa_ < on_ := by omega
                 have y0 : decide (oa_ ≥ 0) = true := decide_eq_true (by omega)
                 have y1 : decide (oa_ ≤ (b.length : Int)) = false := decide_eq_false (by omega)
                 go_wp2_with ((with_reducible refine wpl ?_); (first | (apply al_box (hM := hM); rfl; rfl; (first | (focus (go_simp; done)) | (focus (go_simp; rfl))); clear hM; intro gb w1 hM; dsimp only [Value.cells] at hM) | (apply al_zero (hM := hM); rfl; rfl; (first | exact zero41 | exact zero68); clear hM; intro gz w1 hM; dsimp only [Value.cells] at hM) | (apply ld_row (hM := hM); rfl; rfl; rfl; (repeat first | exact .head _ _ | apply Pick.tail); (first | exact row41 | exact row68)) | (apply st_row (hM := hM); rfl; rfl; rfl; (first | (focus (go_simp; done)) | (focus (go_simp; rfl))); (repeat first | exact .head _ _ | apply Pick.tail); rfl; rfl; (first | exact row41 | exact row68); intro w1 hM1; clear hM; (try simp only [q1, q2, q3] at hM1); (try rw [tab_setInt] at hM1);  have hM := hM1; clear hM1) | (apply ld_one (hM := hM); rfl; rfl; rfl; (repeat first | exact .head _ _ | apply Pick.tail); rfl; (first | exact one3 | exact one39 | exact one22 | exact one9)) | (apply st_cell (hM := hM); rfl; rfl; rfl; (first | (focus (go_simp; done)) | (focus (go_simp; rfl))); (repeat first | exact .head _ _ | apply Pick.tail); simp; rfl; (first | exact one3 | exact one39 | exact one22 | exact one9); intro w1 hM1; clear hM; (try simp only [q1, q2, q3] at hM1); (try rw [tab_setInt] at hM1);  have hM := hM1; clear hM1)); simp only [q0, q9, q1, q2, q3])
                 refine reg_begin (fun w' => Mem B w' [] [⟨gO, #[.int .i64 ok_, .int .i64 op_, .int .i64 oa_, .int .i64 on_, .slice tb td.length tc], 68, (0, 0)⟩, ⟨ga, ca, 41, (0, 0)⟩, ⟨gw, cw, 9, (0, 0)⟩]) (by kernel_rfl) hM (fun wd hMd => ?_)
                 clear hM
                 have hM := hMd
                 clear hMd
                 have hS := hM.swap.none.swap
                 refine rf 0 (own p) hS ?_
                 simp only [q0, q9, q1, q2, q3]
                 refine rf 1 (.slice (some ⟨ga, 0, none⟩) an ac) hS ?_
                 simp only [q0, q9, q1, q2, q3]
                 refine rf 2 (.int .i64 (i : Nat)) hS ?_
                 simp only [q0, q9, q1, q2, q3]
                 refine rf 3 (.pointer (some ⟨ga, i * 2, none⟩)) hS ?_
                 simp only [q0, q9, q1, q2, q3]
                 refine rg_row 4 [.slice xa L.length xk, .int .i64 (b.length : Nat)] rfl (by kernel_rfl) (by kernel_rfl) (by kernel_rfl) (fun _ _ _ h => h) (by rfl) rfl rfl (fun w' h' => h'.at_off (.tail (.head _ _)) _ hela.out) row41 hS ?_
                 simp only [q0, q9, q1, q2, q3]
                 refine rf 5 (.pointer (some ⟨gO, 2, none⟩)) hS ?_
                 simp only [q0, q9, q1, q2, q3]
                 refine rg_one 6 (v := .int .i64 oa_) rfl (by kernel_rfl) (by kernel_rfl) (by kernel_rfl) (fun _ _ _ h => h) (by rfl) rfl rfl (fun w' h' => (h'.cell (.head _ _) 2).trans rfl) one3 hS ?_
                 simp only [q0, q9, q1, q2, q3]
                 refine rf 7 (.pointer (some ⟨gO, 3, none⟩)) hS ?_
                 simp only [q0, q9, q1, q2, q3]
                 refine rg_one 8 (v := .int .i64 on_) rfl (by kernel_rfl) (by kernel_rfl) (by kernel_rfl) (fun _ _ _ h => h) (by rfl) rfl rfl (fun w' h' => (h'.cell (.head _ _) 3).trans rfl) one3 hS ?_
                 simp only [q0, q9, q1, q2, q3]
                 refine reg_step 9 (by kernel_rfl) rfl ?_
                 refine call_fn rfl (by rfl) cf28 (cread_bad (c := ⟨.slice xa L.length xk, L, b⟩) (v := (b.length : Nat)) hM hc1 hI1 (List.mem_cons_self ..) (by simp only; omega) oa_ on_ hbad rfl) (by simp only [List.map_toArray, List.map_cons, List.map_nil]; rfl) ?_
                 clear hM
                 rintro e w4 ⟨rfl, hM⟩
                 refine ⟨_, rfl, ?_⟩
                 clear hS
                 have hS := hM.swap.none.swap
                 refine ⟨hS, ?_⟩
                 simp only [q0, q9, q1, q2, q3]
                 refine rf 10 (.tuple #[.slice none 0 0, .int .i64 1]) hS ?_
                 simp only [q0, q9, q1, q2, q3]
                 refine rf 11 (.slice none 0 0) hS ?_
                 simp only [q0, q9, q1, q2, q3]
                 refine rf 12 (.int .i64 1) hS ?_
                 simp only [q0, q9, q1, q2, q3]
                 refine rf 13 (.slice none 0 0) hS ?_
                 simp only [q0, q9, q1, q2, q3]
                 refine rf 14 (.int .i64 1) hS ?_
                 simp only [q0, q9, q1, q2, q3]
                 refine reg_done (by kernel_rfl) ?_
                 clear hS
                 go_wp2_with ((with_reducible refine wpl ?_); (first | (apply al_box (hM := hM); rfl; rfl; (first | (focus (go_simp; done)) | (focus (go_simp; rfl))); clear hM; intro gb w1 hM; dsimp only [Value.cells] at hM) | (apply al_zero (hM := hM); rfl; rfl; (first | exact zero41 | exact zero68); clear hM; intro gz w1 hM; dsimp only [Value.cells] at hM) | (apply ld_row (hM := hM); rfl; rfl; rfl; (repeat first | exact .head _ _ | apply Pick.tail); (first | exact row41 | exact row68)) | (apply st_row (hM := hM); rfl; rfl; rfl; (first | (focus (go_simp; done)) | (focus (go_simp; rfl))); (repeat first | exact .head _ _ | apply Pick.tail); rfl; rfl; (first | exact row41 | exact row68); intro w1 hM1; clear hM; (try simp only [q1, q2, q3] at hM1); (try rw [tab_setInt] at hM1);  have hM := hM1; clear hM1) | (apply ld_one (hM := hM); rfl; rfl; rfl; (repeat first | exact .head _ _ | apply Pick.tail); rfl; (first | exact one3 | exact one39 | exact one22 | exact one9)) | (apply st_cell (hM := hM); rfl; rfl; rfl; (first | (focus (go_simp; done)) | (focus (go_simp; rfl))); (repeat first | exact .head _ _ | apply Pick.tail); simp; rfl; (first | exact one3 | exact one39 | exact one22 | exact one9); intro w1 hM1; clear hM; (try simp only [q1, q2, q3] at hM1); (try rw [tab_setInt] at hM1);  have hM := hM1; clear hM1)); simp only [q0, q9, q1, q2, q3])
                 refine reg_begin (fun w' => Mem B w' [] [⟨gO, #[.int .i64 ok_, .int .i64 op_, .int .i64 oa_, .int .i64 on_, .slice tb td.length tc], 68, (0, 0)⟩, ⟨ga, ca, 41, (0, 0)⟩, ⟨gw, cw, 9, (0, 0)⟩]) (by kernel_rfl) hM (fun wd hMd => ?_)
                 clear hM
                 have hM := hMd
                 clear hMd
                 have hS := hM.swap.none.swap
                 refine rf 0 (.pointer (some ⟨gO, 2, none⟩)) hS ?_
                 simp only [q0, q9, q1, q2, q3]
                 refine rg_one 1 (v := .int .i64 oa_) rfl (by kernel_rfl) (by kernel_rfl) (by kernel_rfl) (fun _ _ _ h => h) (by rfl) rfl rfl (fun w' h' => (h'.cell (.head _ _) 2).trans rfl) one3 hS ?_
                 simp only [q0, q9, q1, q2, q3]
                 refine rf 2 (.bool true) hS ?_
                 simp only [q0, q9, q1, q2, q3]
                 refine rf 3 (.bool true) hS ?_
                 simp only [q0, q9, q1, q2, q3]
                 refine rf 4 (.pointer (some ⟨gO, 2, none⟩)) hS ?_
                 simp only [q0, q9, q1, q2, q3]
                 refine rg_one 5 (v := .int .i64 oa_) rfl (by kernel_rfl) (by kernel_rfl) (by kernel_rfl) (fun _ _ _ h => h) (by rfl) rfl rfl (fun w' h' => (h'.cell (.head _ _) 2).trans rfl) one3 hS ?_
                 simp only [q0, q9, q1, q2, q3]
                 refine rf 6 (.slice (some ⟨gw, 0, none⟩) wn wc) hS ?_
                 simp only [q0, q9, q1, q2, q3]
                 refine rf 7 (.int .i64 (i : Nat)) hS ?_
                 simp only [q0, q9, q1, q2, q3]
                 refine rf 8 (.pointer (some ⟨gw, i, none⟩)) hS ?_
                 simp only [q0, q9, q1, q2, q3]
                 refine rg_one 9 (v := .string ⟨b.toArray⟩) rfl (by kernel_rfl) (by kernel_rfl) (by kernel_rfl) (fun _ _ _ h => h) (by rfl) rfl rfl (fun w' h' => (h'.cell (.tail (.tail (.head _ _))) i).trans helw.out) one9 hS ?_
                 simp only [q0, q9, q1, q2, q3]
                 refine rf 10 (.int .i64 (b.length : Nat)) hS ?_
                 simp only [q0, q9, q1, q2, q3]
                 refine rf 11 (.bool false) hS ?_
                 simp only [q0, q9, q1, q2, q3]
                 refine rf 12 (.bool false) hS ?_
                 simp only [q0, q9, q1, q2, q3]
                 refine rf 13 (.bool false) hS ?_
                 simp only [q0, q9, q1, q2, q3]
                 refine rk 14 hS ?_
                 simp only [q0, q9, q1, q2, q3]
                 refine rk 15 hS ?_
                 simp only [q0, q9, q1, q2, q3]
                 refine rk 16 hS ?_
                 simp only [q0, q9, q1, q2, q3]
                 refine rf 17 (.bool false) hS ?_
                 simp only [q0, q9, q1, q2, q3]
                 refine rf 18 (.bool false) hS ?_
                 simp only [q0, q9, q1, q2, q3]
                 refine rk 19 hS ?_
                 simp only [q0, q9, q1, q2, q3]
                 refine rk 20 hS ?_
                 simp only [q0, q9, q1, q2, q3]
                 refine rk 21 hS ?_
                 simp only [q0, q9, q1, q2, q3]
                 refine rk 22 hS ?_
                 simp only [q0, q9, q1, q2, q3]
                 refine rk 23 hS ?_
                 simp only [q0, q9, q1, q2, q3]
                 refine rk 24 hS ?_
                 simp only [q0, q9, q1, q2, q3]
                 refine rk 25 hS ?_
                 simp only [q0, q9, q1, q2, q3]
                 refine rk 26 hS ?_
                 simp only [q0, q9, q1, q2, q3]
                 refine rk 27 hS ?_
                 simp only [q0, q9, q1, q2, q3]
                 refine rk 28 hS ?_
                 simp only [q0, q9, q1, q2, q3]
                 refine rk 29 hS ?_
                 simp only [q0, q9, q1, q2, q3]
                 refine rf 30 (.bool false) hS ?_
                 simp only [q0, q9, q1, q2, q3]
                 refine rf 31 (.bool false) hS ?_
                 simp only [q0, q9, q1, q2, q3]
                 refine reg_done (by kernel_rfl) ?_
                 clear hS
                 go_wp2_with ((with_reducible refine wpl ?_); (first | (apply al_box (hM := hM); rfl; rfl; (first | (focus (go_simp; done)) | (focus (go_simp; rfl))); clear hM; intro gb w1 hM; dsimp only [Value.cells] at hM) | (apply al_zero (hM := hM); rfl; rfl; (first | exact zero41 | exact zero68); clear hM; intro gz w1 hM; dsimp only [Value.cells] at hM) | (apply ld_row (hM := hM); rfl; rfl; rfl; (repeat first | exact .head _ _ | apply Pick.tail); (first | exact row41 | exact row68)) | (apply st_row (hM := hM); rfl; rfl; rfl; (first | (focus (go_simp; done)) | (focus (go_simp; rfl))); (repeat first | exact .head _ _ | apply Pick.tail); rfl; rfl; (first | exact row41 | exact row68); intro w1 hM1; clear hM; (try simp only [q1, q2, q3] at hM1); (try rw [tab_setInt] at hM1);  have hM := hM1; clear hM1) | (apply ld_one (hM := hM); rfl; rfl; rfl; (repeat first | exact .head _ _ | apply Pick.tail); rfl; (first | exact one3 | exact one39 | exact one22 | exact one9)) | (apply st_cell (hM := hM); rfl; rfl; rfl; (first | (focus (go_simp; done)) | (focus (go_simp; rfl))); (repeat first | exact .head _ _ | apply Pick.tail); simp; rfl; (first | exact one3 | exact one39 | exact one22 | exact one9); intro w1 hM1; clear hM; (try simp only [q1, q2, q3] at hM1); (try rw [tab_setInt] at hM1);  have hM := hM1; clear hM1)); simp only [q0, q9, q1, q2, q3])
                 refine reg_begin (fun w' => Mem B w' [] [⟨gO, #[.int .i64 ok_, .int .i64 op_, .int .i64 oa_, .int .i64 on_, .slice tb td.length tc], 68, (0, 0)⟩, ⟨ga, ca, 41, (0, 0)⟩, ⟨gw, cw, 9, (0, 0)⟩]) (by kernel_rfl) hM (fun wd hMd => ?_)
                 clear hM
                 have hM := hMd
                 clear hMd
                 have hS := hM.swap.none.swap
                 refine rf 0 (.int .i64 1) hS ?_
                 simp only [q0, q9, q1, q2, q3]
                 refine rf 1 (.bool false) hS ?_
                 simp only [q0, q9, q1, q2, q3]
                 refine rf 2 (.bool false) hS ?_
                 simp only [q0, q9, q1, q2, q3]
                 refine rf 3 (.bool false) hS ?_
                 simp only [q0, q9, q1, q2, q3]
                 refine rf 4 (.bool false) hS ?_
                 simp only [q0, q9, q1, q2, q3]
                 refine rf 5 (.bool false) hS ?_
                 simp only [q0, q9, q1, q2, q3]
                 refine rf 6 (.bool false) hS ?_
                 simp only [q0, q9, q1, q2, q3]
                 refine rk 7 hS ?_
                 simp only [q0, q9, q1, q2, q3]
                 refine rk 8 hS ?_
                 simp only [q0, q9, q1, q2, q3]
                 refine rk 9 hS ?_
                 simp only [q0, q9, q1, q2, q3]
                 refine rk 10 hS ?_
                 simp only [q0, q9, q1, q2, q3]
                 refine rk 11 hS ?_
                 simp only [q0, q9, q1, q2, q3]
                 refine rk 12 hS ?_
                 simp only [q0, q9, q1, q2, q3]
                 refine rk 13 hS ?_
                 simp only [q0, q9, q1, q2, q3]
                 refine rk 14 hS ?_
                 simp only [q0, q9, q1, q2, q3]
                 refine rk 15 hS ?_
                 simp only [q0, q9, q1, q2, q3]
                 refine rk 16 hS ?_
                 simp only [q0, q9, q1, q2, q3]
                 refine rk 17 hS ?_
                 simp only [q0, q9, q1, q2, q3]
                 refine rk 18 hS ?_
                 simp only [q0, q9, q1, q2, q3]
                 refine rk 19 hS ?_
                 simp only [q0, q9, q1, q2, q3]
                 refine rk 20 hS ?_
                 simp only [q0, q9, q1, q2, q3]
                 refine rk 21 hS ?_
                 simp only [q0, q9, q1, q2, q3]
                 refine rf 22 (.bool false) hS ?_
                 simp only [q0, q9, q1, q2, q3]
                 refine rf 23 (.bool false) hS ?_
                 simp only [q0, q9, q1, q2, q3]
                 refine rf 24 (.bool false) hS ?_
                 simp only [q0, q9, q1, q2, q3]
                 refine rf 25 (.bool false) hS ?_
                 simp only [q0, q9, q1, q2, q3]
                 refine rf 26 (.bool true) hS ?_
                 simp only [q0, q9, q1, q2, q3]
                 refine rf 27 (.bool true) hS ?_
                 simp only [q0, q9, q1, q2, q3]
                 refine rf 28 (.int .i64 1) hS ?_
                 simp only [q0, q9, q1, q2, q3]
                 refine rf 29 (.bool false) hS ?_
                 simp only [q0, q9, q1, q2, q3]
                 refine rf 30 (.bool false) hS ?_
                 simp only [q0, q9, q1, q2, q3]
                 refine rf 31 (.bool false) hS ?_
                 simp only [q0, q9, q1, q2, q3]
                 refine reg_done (by kernel_rfl) ?_
                 clear hS
                 go_wp2_with ((with_reducible refine wpl ?_); (first | (apply al_box (hM := hM); rfl; rfl; (first | (focus (go_simp; done)) | (focus (go_simp; rfl))); clear hM; intro gb w1 hM; dsimp only [Value.cells] at hM) | (apply al_zero (hM := hM); rfl; rfl; (first | exact zero41 | exact zero68); clear hM; intro gz w1 hM; dsimp only [Value.cells] at hM) | (apply ld_row (hM := hM); rfl; rfl; rfl; (repeat first | exact .head _ _ | apply Pick.tail); (first | exact row41 | exact row68)) | (apply st_row (hM := hM); rfl; rfl; rfl; (first | (focus (go_simp; done)) | (focus (go_simp; rfl))); (repeat first | exact .head _ _ | apply Pick.tail); rfl; rfl; (first | exact row41 | exact row68); intro w1 hM1; clear hM; (try simp only [q1, q2, q3] at hM1); (try rw [tab_setInt] at hM1);  have hM := hM1; clear hM1) | (apply ld_one (hM := hM); rfl; rfl; rfl; (repeat first | exact .head _ _ | apply Pick.tail); rfl; (first | exact one3 | exact one39 | exact one22 | exact one9)) | (apply st_cell (hM := hM); rfl; rfl; rfl; (first | (focus (go_simp; done)) | (focus (go_simp; rfl))); (repeat first | exact .head _ _ | apply Pick.tail); simp; rfl; (first | exact one3 | exact one39 | exact one22 | exact one9); intro w1 hM1; clear hM; (try simp only [q1, q2, q3] at hM1); (try rw [tab_setInt] at hM1);  have hM := hM1; clear hM1)); simp only [q0, q9, q1, q2, q3])
                 go_roundw
                 case rel => exact ⟨j + 1, ss, B, cs, _, _, _, _, by omega, by go_num, rfl, rfl, hle, hcs, hIs, hid_ (by have := hjl.out; omega), hid_ (fun d hd => by have := hdl.out d hd; omega), hTa, hTw, hM.tail⟩
                 case measure => simp [intOf]; omega
              by_cases b3 : on_ < 0
              · as_aux_lemma =>
                 have hbad : oa_ < 0 ∨ (b.length : Int) < oa_ ∨ on_ < 0 ∨ (b.length : Int) - oa_ < on_ := by omega
                 have y0 : decide (oa_ ≥ 0) = true := decide_eq_true (by omega)
                 have y1 : decide (oa_ ≤ (b.length : Int)) = true := decide_eq_true (by omega)
                 have y2 : decide (on_ ≥ 0) = false := decide_eq_false (by omega)
                 go_wp2_with ((with_reducible refine wpl ?_); (first | (apply al_box (hM := hM); rfl; rfl; (first | (focus (go_simp; done)) | (focus (go_simp; rfl))); clear hM; intro gb w1 hM; dsimp only [Value.cells] at hM) | (apply al_zero (hM := hM); rfl; rfl; (first | exact zero41 | exact zero68); clear hM; intro gz w1 hM; dsimp only [Value.cells] at hM) | (apply ld_row (hM := hM); rfl; rfl; rfl; (repeat first | exact .head _ _ | apply Pick.tail); (first | exact row41 | exact row68)) | (apply st_row (hM := hM); rfl; rfl; rfl; (first | (focus (go_simp; done)) | (focus (go_simp; rfl))); (repeat first | exact .head _ _ | apply Pick.tail); rfl; rfl; (first | exact row41 | exact row68); intro w1 hM1; clear hM; (try simp only [q1, q2, q3] at hM1); (try rw [tab_setInt] at hM1);  have hM := hM1; clear hM1) | (apply ld_one (hM := hM); rfl; rfl; rfl; (repeat first | exact .head _ _ | apply Pick.tail); rfl; (first | exact one3 | exact one39 | exact one22 | exact one9)) | (apply st_cell (hM := hM); rfl; rfl; rfl; (first | (focus (go_simp; done)) | (focus (go_simp; rfl))); (repeat first | exact .head _ _ | apply Pick.tail); simp; rfl; (first | exact one3 | exact one39 | exact one22 | exact one9); intro w1 hM1; clear hM; (try simp only [q1, q2, q3] at hM1); (try rw [tab_setInt] at hM1);  have hM := hM1; clear hM1)); simp only [q0, q9, q1, q2, q3])
                 refine reg_begin (fun w' => Mem B w' [] [⟨gO, #[.int .i64 ok_, .int .i64 op_, .int .i64 oa_, .int .i64 on_, .slice tb td.length tc], 68, (0, 0)⟩, ⟨ga, ca, 41, (0, 0)⟩, ⟨gw, cw, 9, (0, 0)⟩]) (by kernel_rfl) hM (fun wd hMd => ?_)
                 clear hM
                 have hM := hMd
                 clear hMd
                 have hS := hM.swap.none.swap
                 refine rf 0 (own p) hS ?_
                 simp only [q0, q9, q1, q2, q3]
                 refine rf 1 (.slice (some ⟨ga, 0, none⟩) an ac) hS ?_
                 simp only [q0, q9, q1, q2, q3]
                 refine rf 2 (.int .i64 (i : Nat)) hS ?_
                 simp only [q0, q9, q1, q2, q3]
                 refine rf 3 (.pointer (some ⟨ga, i * 2, none⟩)) hS ?_
                 simp only [q0, q9, q1, q2, q3]
                 refine rg_row 4 [.slice xa L.length xk, .int .i64 (b.length : Nat)] rfl (by kernel_rfl) (by kernel_rfl) (by kernel_rfl) (fun _ _ _ h => h) (by rfl) rfl rfl (fun w' h' => h'.at_off (.tail (.head _ _)) _ hela.out) row41 hS ?_
                 simp only [q0, q9, q1, q2, q3]
                 refine rf 5 (.pointer (some ⟨gO, 2, none⟩)) hS ?_
                 simp only [q0, q9, q1, q2, q3]
                 refine rg_one 6 (v := .int .i64 oa_) rfl (by kernel_rfl) (by kernel_rfl) (by kernel_rfl) (fun _ _ _ h => h) (by rfl) rfl rfl (fun w' h' => (h'.cell (.head _ _) 2).trans rfl) one3 hS ?_
                 simp only [q0, q9, q1, q2, q3]
                 refine rf 7 (.pointer (some ⟨gO, 3, none⟩)) hS ?_
                 simp only [q0, q9, q1, q2, q3]
                 refine rg_one 8 (v := .int .i64 on_) rfl (by kernel_rfl) (by kernel_rfl) (by kernel_rfl) (fun _ _ _ h => h) (by rfl) rfl rfl (fun w' h' => (h'.cell (.head _ _) 3).trans rfl) one3 hS ?_
                 simp only [q0, q9, q1, q2, q3]
                 refine reg_step 9 (by kernel_rfl) rfl ?_
                 refine call_fn rfl (by rfl) cf28 (cread_bad (c := ⟨.slice xa L.length xk, L, b⟩) (v := (b.length : Nat)) hM hc1 hI1 (List.mem_cons_self ..) (by simp only; omega) oa_ on_ hbad rfl) (by simp only [List.map_toArray, List.map_cons, List.map_nil]; rfl) ?_
                 clear hM
                 rintro e w4 ⟨rfl, hM⟩
                 refine ⟨_, rfl, ?_⟩
                 clear hS
                 have hS := hM.swap.none.swap
                 refine ⟨hS, ?_⟩
                 simp only [q0, q9, q1, q2, q3]
                 refine rf 10 (.tuple #[.slice none 0 0, .int .i64 1]) hS ?_
                 simp only [q0, q9, q1, q2, q3]
                 refine rf 11 (.slice none 0 0) hS ?_
                 simp only [q0, q9, q1, q2, q3]
                 refine rf 12 (.int .i64 1) hS ?_
                 simp only [q0, q9, q1, q2, q3]
                 refine rf 13 (.slice none 0 0) hS ?_
                 simp only [q0, q9, q1, q2, q3]
                 refine rf 14 (.int .i64 1) hS ?_
                 simp only [q0, q9, q1, q2, q3]
                 refine reg_done (by kernel_rfl) ?_
                 clear hS
                 go_wp2_with ((with_reducible refine wpl ?_); (first | (apply al_box (hM := hM); rfl; rfl; (first | (focus (go_simp; done)) | (focus (go_simp; rfl))); clear hM; intro gb w1 hM; dsimp only [Value.cells] at hM) | (apply al_zero (hM := hM); rfl; rfl; (first | exact zero41 | exact zero68); clear hM; intro gz w1 hM; dsimp only [Value.cells] at hM) | (apply ld_row (hM := hM); rfl; rfl; rfl; (repeat first | exact .head _ _ | apply Pick.tail); (first | exact row41 | exact row68)) | (apply st_row (hM := hM); rfl; rfl; rfl; (first | (focus (go_simp; done)) | (focus (go_simp; rfl))); (repeat first | exact .head _ _ | apply Pick.tail); rfl; rfl; (first | exact row41 | exact row68); intro w1 hM1; clear hM; (try simp only [q1, q2, q3] at hM1); (try rw [tab_setInt] at hM1);  have hM := hM1; clear hM1) | (apply ld_one (hM := hM); rfl; rfl; rfl; (repeat first | exact .head _ _ | apply Pick.tail); rfl; (first | exact one3 | exact one39 | exact one22 | exact one9)) | (apply st_cell (hM := hM); rfl; rfl; rfl; (first | (focus (go_simp; done)) | (focus (go_simp; rfl))); (repeat first | exact .head _ _ | apply Pick.tail); simp; rfl; (first | exact one3 | exact one39 | exact one22 | exact one9); intro w1 hM1; clear hM; (try simp only [q1, q2, q3] at hM1); (try rw [tab_setInt] at hM1);  have hM := hM1; clear hM1)); simp only [q0, q9, q1, q2, q3])
                 refine reg_begin (fun w' => Mem B w' [] [⟨gO, #[.int .i64 ok_, .int .i64 op_, .int .i64 oa_, .int .i64 on_, .slice tb td.length tc], 68, (0, 0)⟩, ⟨ga, ca, 41, (0, 0)⟩, ⟨gw, cw, 9, (0, 0)⟩]) (by kernel_rfl) hM (fun wd hMd => ?_)
                 clear hM
                 have hM := hMd
                 clear hMd
                 have hS := hM.swap.none.swap
                 refine rf 0 (.pointer (some ⟨gO, 2, none⟩)) hS ?_
                 simp only [q0, q9, q1, q2, q3]
                 refine rg_one 1 (v := .int .i64 oa_) rfl (by kernel_rfl) (by kernel_rfl) (by kernel_rfl) (fun _ _ _ h => h) (by rfl) rfl rfl (fun w' h' => (h'.cell (.head _ _) 2).trans rfl) one3 hS ?_
                 simp only [q0, q9, q1, q2, q3]
                 refine rf 2 (.bool true) hS ?_
                 simp only [q0, q9, q1, q2, q3]
                 refine rf 3 (.bool true) hS ?_
                 simp only [q0, q9, q1, q2, q3]
                 refine rf 4 (.pointer (some ⟨gO, 2, none⟩)) hS ?_
                 simp only [q0, q9, q1, q2, q3]
                 refine rg_one 5 (v := .int .i64 oa_) rfl (by kernel_rfl) (by kernel_rfl) (by kernel_rfl) (fun _ _ _ h => h) (by rfl) rfl rfl (fun w' h' => (h'.cell (.head _ _) 2).trans rfl) one3 hS ?_
                 simp only [q0, q9, q1, q2, q3]
                 refine rf 6 (.slice (some ⟨gw, 0, none⟩) wn wc) hS ?_
                 simp only [q0, q9, q1, q2, q3]
                 refine rf 7 (.int .i64 (i : Nat)) hS ?_
                 simp only [q0, q9, q1, q2, q3]
                 refine rf 8 (.pointer (some ⟨gw, i, none⟩)) hS ?_
                 simp only [q0, q9, q1, q2, q3]
                 refine rg_one 9 (v := .string ⟨b.toArray⟩) rfl (by kernel_rfl) (by kernel_rfl) (by kernel_rfl) (fun _ _ _ h => h) (by rfl) rfl rfl (fun w' h' => (h'.cell (.tail (.tail (.head _ _))) i).trans helw.out) one9 hS ?_
                 simp only [q0, q9, q1, q2, q3]
                 refine rf 10 (.int .i64 (b.length : Nat)) hS ?_
                 simp only [q0, q9, q1, q2, q3]
                 refine rf 11 (.bool true) hS ?_
                 simp only [q0, q9, q1, q2, q3]
                 refine rf 12 (.bool true) hS ?_
                 simp only [q0, q9, q1, q2, q3]
                 refine rf 13 (.bool true) hS ?_
                 simp only [q0, q9, q1, q2, q3]
                 refine rf 14 (.pointer (some ⟨gO, 3, none⟩)) hS ?_
                 simp only [q0, q9, q1, q2, q3]
                 refine rg_one 15 (v := .int .i64 on_) rfl (by kernel_rfl) (by kernel_rfl) (by kernel_rfl) (fun _ _ _ h => h) (by rfl) rfl rfl (fun w' h' => (h'.cell (.head _ _) 3).trans rfl) one3 hS ?_
                 simp only [q0, q9, q1, q2, q3]
                 refine rf 16 (.bool false) hS ?_
                 simp only [q0, q9, q1, q2, q3]
                 refine rf 17 (.bool false) hS ?_
                 simp only [q0, q9, q1, q2, q3]
                 refine rf 18 (.bool false) hS ?_
                 simp only [q0, q9, q1, q2, q3]
                 refine rk 19 hS ?_
                 simp only [q0, q9, q1, q2, q3]
                 refine rk 20 hS ?_
                 simp only [q0, q9, q1, q2, q3]
                 refine rk 21 hS ?_
                 simp only [q0, q9, q1, q2, q3]
                 refine rk 22 hS ?_
                 simp only [q0, q9, q1, q2, q3]
                 refine rk 23 hS ?_
                 simp only [q0, q9, q1, q2, q3]
                 refine rk 24 hS ?_
                 simp only [q0, q9, q1, q2, q3]
                 refine rk 25 hS ?_
                 simp only [q0, q9, q1, q2, q3]
                 refine rk 26 hS ?_
                 simp only [q0, q9, q1, q2, q3]
                 refine rk 27 hS ?_
                 simp only [q0, q9, q1, q2, q3]
                 refine rk 28 hS ?_
                 simp only [q0, q9, q1, q2, q3]
                 refine rk 29 hS ?_
                 simp only [q0, q9, q1, q2, q3]
                 refine rf 30 (.bool false) hS ?_
                 simp only [q0, q9, q1, q2, q3]
                 refine rf 31 (.bool false) hS ?_
                 simp only [q0, q9, q1, q2, q3]
                 refine reg_done (by kernel_rfl) ?_
                 clear hS
                 go_wp2_with ((with_reducible refine wpl ?_); (first | (apply al_box (hM := hM); rfl; rfl; (first | (focus (go_simp; done)) | (focus (go_simp; rfl))); clear hM; intro gb w1 hM; dsimp only [Value.cells] at hM) | (apply al_zero (hM := hM); rfl; rfl; (first | exact zero41 | exact zero68); clear hM; intro gz w1 hM; dsimp only [Value.cells] at hM) | (apply ld_row (hM := hM); rfl; rfl; rfl; (repeat first | exact .head _ _ | apply Pick.tail); (first | exact row41 | exact row68)) | (apply st_row (hM := hM); rfl; rfl; rfl; (first | (focus (go_simp; done)) | (focus (go_simp; rfl))); (repeat first | exact .head _ _ | apply Pick.tail); rfl; rfl; (first | exact row41 | exact row68); intro w1 hM1; clear hM; (try simp only [q1, q2, q3] at hM1); (try rw [tab_setInt] at hM1);  have hM := hM1; clear hM1) | (apply ld_one (hM := hM); rfl; rfl; rfl; (repeat first | exact .head _ _ | apply Pick.tail); rfl; (first | exact one3 | exact one39 | exact one22 | exact one9)) | (apply st_cell (hM := hM); rfl; rfl; rfl; (first | (focus (go_simp; done)) | (focus (go_simp; rfl))); (repeat first | exact .head _ _ | apply Pick.tail); simp; rfl; (first | exact one3 | exact one39 | exact one22 | exact one9); intro w1 hM1; clear hM; (try simp only [q1, q2, q3] at hM1); (try rw [tab_setInt] at hM1);  have hM := hM1; clear hM1)); simp only [q0, q9, q1, q2, q3])
                 refine reg_begin (fun w' => Mem B w' [] [⟨gO, #[.int .i64 ok_, .int .i64 op_, .int .i64 oa_, .int .i64 on_, .slice tb td.length tc], 68, (0, 0)⟩, ⟨ga, ca, 41, (0, 0)⟩, ⟨gw, cw, 9, (0, 0)⟩]) (by kernel_rfl) hM (fun wd hMd => ?_)
                 clear hM
                 have hM := hMd
                 clear hMd
                 have hS := hM.swap.none.swap
                 refine rf 0 (.int .i64 1) hS ?_
                 simp only [q0, q9, q1, q2, q3]
                 refine rf 1 (.bool false) hS ?_
                 simp only [q0, q9, q1, q2, q3]
                 refine rf 2 (.bool false) hS ?_
                 simp only [q0, q9, q1, q2, q3]
                 refine rf 3 (.bool false) hS ?_
                 simp only [q0, q9, q1, q2, q3]
                 refine rf 4 (.bool false) hS ?_
                 simp only [q0, q9, q1, q2, q3]
                 refine rf 5 (.bool false) hS ?_
                 simp only [q0, q9, q1, q2, q3]
                 refine rf 6 (.bool false) hS ?_
                 simp only [q0, q9, q1, q2, q3]
                 refine rk 7 hS ?_
                 simp only [q0, q9, q1, q2, q3]
                 refine rk 8 hS ?_
                 simp only [q0, q9, q1, q2, q3]
                 refine rk 9 hS ?_
                 simp only [q0, q9, q1, q2, q3]
                 refine rk 10 hS ?_
                 simp only [q0, q9, q1, q2, q3]
                 refine rk 11 hS ?_
                 simp only [q0, q9, q1, q2, q3]
                 refine rk 12 hS ?_
                 simp only [q0, q9, q1, q2, q3]
                 refine rk 13 hS ?_
                 simp only [q0, q9, q1, q2, q3]
                 refine rk 14 hS ?_
                 simp only [q0, q9, q1, q2, q3]
                 refine rk 15 hS ?_
                 simp only [q0, q9, q1, q2, q3]
                 refine rk 16 hS ?_
                 simp only [q0, q9, q1, q2, q3]
                 refine rk 17 hS ?_
                 simp only [q0, q9, q1, q2, q3]
                 refine rk 18 hS ?_
                 simp only [q0, q9, q1, q2, q3]
                 refine rk 19 hS ?_
                 simp only [q0, q9, q1, q2, q3]
                 refine rk 20 hS ?_
                 simp only [q0, q9, q1, q2, q3]
                 refine rk 21 hS ?_
                 simp only [q0, q9, q1, q2, q3]
                 refine rf 22 (.bool false) hS ?_
                 simp only [q0, q9, q1, q2, q3]
                 refine rf 23 (.bool false) hS ?_
                 simp only [q0, q9, q1, q2, q3]
                 refine rf 24 (.bool false) hS ?_
                 simp only [q0, q9, q1, q2, q3]
                 refine rf 25 (.bool false) hS ?_
                 simp only [q0, q9, q1, q2, q3]
                 refine rf 26 (.bool true) hS ?_
                 simp only [q0, q9, q1, q2, q3]
                 refine rf 27 (.bool true) hS ?_
                 simp only [q0, q9, q1, q2, q3]
                 refine rf 28 (.int .i64 1) hS ?_
                 simp only [q0, q9, q1, q2, q3]
                 refine rf 29 (.bool false) hS ?_
                 simp only [q0, q9, q1, q2, q3]
                 refine rf 30 (.bool false) hS ?_
                 simp only [q0, q9, q1, q2, q3]
                 refine rf 31 (.bool false) hS ?_
                 simp only [q0, q9, q1, q2, q3]
                 refine reg_done (by kernel_rfl) ?_
                 clear hS
                 go_wp2_with ((with_reducible refine wpl ?_); (first | (apply al_box (hM := hM); rfl; rfl; (first | (focus (go_simp; done)) | (focus (go_simp; rfl))); clear hM; intro gb w1 hM; dsimp only [Value.cells] at hM) | (apply al_zero (hM := hM); rfl; rfl; (first | exact zero41 | exact zero68); clear hM; intro gz w1 hM; dsimp only [Value.cells] at hM) | (apply ld_row (hM := hM); rfl; rfl; rfl; (repeat first | exact .head _ _ | apply Pick.tail); (first | exact row41 | exact row68)) | (apply st_row (hM := hM); rfl; rfl; rfl; (first | (focus (go_simp; done)) | (focus (go_simp; rfl))); (repeat first | exact .head _ _ | apply Pick.tail); rfl; rfl; (first | exact row41 | exact row68); intro w1 hM1; clear hM; (try simp only [q1, q2, q3] at hM1); (try rw [tab_setInt] at hM1);  have hM := hM1; clear hM1) | (apply ld_one (hM := hM); rfl; rfl; rfl; (repeat first | exact .head _ _ | apply Pick.tail); rfl; (first | exact one3 | exact one39 | exact one22 | exact one9)) | (apply st_cell (hM := hM); rfl; rfl; rfl; (first | (focus (go_simp; done)) | (focus (go_simp; rfl))); (repeat first | exact .head _ _ | apply Pick.tail); simp; rfl; (first | exact one3 | exact one39 | exact one22 | exact one9); intro w1 hM1; clear hM; (try simp only [q1, q2, q3] at hM1); (try rw [tab_setInt] at hM1);  have hM := hM1; clear hM1)); simp only [q0, q9, q1, q2, q3])
                 go_roundw
                 case rel => exact ⟨j + 1, ss, B, cs, _, _, _, _, by omega, by go_num, rfl, rfl, hle, hcs, hIs, hid_ (by have := hjl.out; omega), hid_ (fun d hd => by have := hdl.out d hd; omega), hTa, hTw, hM.tail⟩
                 case measure => simp [intOf]; omega
              as_aux_lemma =>
               have hbad : oa_ < 0 ∨ (b.length : Int) < oa_ ∨ on_ < 0 ∨ (b.length : Int) - oa_ < on_ := by omega
               have y0 : decide (oa_ ≥ 0) = true := decide_eq_true (by omega)
               have y1 : decide (oa_ ≤ (b.length : Int)) = true := decide_eq_true (by omega)
               have y2 : decide (on_ ≥ 0) = true := decide_eq_true (by omega)
               have y3 : decide (on_ ≤ (b.length : Int) - oa_) = false := decide_eq_false (by omega)
               have hwr3 : IntKind.i64.wrap ((b.length : Int) - oa_) = (b.length : Int) - oa_ := IntWalk.i64_in _ (by omega)
               go_wp2_with ((with_reducible refine wpl ?_); (first | (apply al_box (hM := hM); rfl; rfl; (first | (focus (go_simp; done)) | (focus (go_simp; rfl))); clear hM; intro gb w1 hM; dsimp only [Value.cells] at hM) | (apply al_zero (hM := hM); rfl; rfl; (first | exact zero41 | exact zero68); clear hM; intro gz w1 hM; dsimp only [Value.cells] at hM) | (apply ld_row (hM := hM); rfl; rfl; rfl; (repeat first | exact .head _ _ | apply Pick.tail); (first | exact row41 | exact row68)) | (apply st_row (hM := hM); rfl; rfl; rfl; (first | (focus (go_simp; done)) | (focus (go_simp; rfl))); (repeat first | exact .head _ _ | apply Pick.tail); rfl; rfl; (first | exact row41 | exact row68); intro w1 hM1; clear hM; (try simp only [q1, q2, q3] at hM1); (try rw [tab_setInt] at hM1);  have hM := hM1; clear hM1) | (apply ld_one (hM := hM); rfl; rfl; rfl; (repeat first | exact .head _ _ | apply Pick.tail); rfl; (first | exact one3 | exact one39 | exact one22 | exact one9)) | (apply st_cell (hM := hM); rfl; rfl; rfl; (first | (focus (go_simp; done)) | (focus (go_simp; rfl))); (repeat first | exact .head _ _ | apply Pick.tail); simp; rfl; (first | exact one3 | exact one39 | exact one22 | exact one9); intro w1 hM1; clear hM; (try simp only [q1, q2, q3] at hM1); (try rw [tab_setInt] at hM1);  have hM := hM1; clear hM1)); simp only [q0, q9, q1, q2, q3])
               refine reg_begin (fun w' => Mem B w' [] [⟨gO, #[.int .i64 ok_, .int .i64 op_, .int .i64 oa_, .int .i64 on_, .slice tb td.length tc], 68, (0, 0)⟩, ⟨ga, ca, 41, (0, 0)⟩, ⟨gw, cw, 9, (0, 0)⟩]) (by kernel_rfl) hM (fun wd hMd => ?_)
               clear hM
               have hM := hMd
               clear hMd
               have hS := hM.swap.none.swap
               refine rf 0 (own p) hS ?_
               simp only [q0, q9, q1, q2, q3]
               refine rf 1 (.slice (some ⟨ga, 0, none⟩) an ac) hS ?_
               simp only [q0, q9, q1, q2, q3]
               refine rf 2 (.int .i64 (i : Nat)) hS ?_
               simp only [q0, q9, q1, q2, q3]
               refine rf 3 (.pointer (some ⟨ga, i * 2, none⟩)) hS ?_
               simp only [q0, q9, q1, q2, q3]
               refine rg_row 4 [.slice xa L.length xk, .int .i64 (b.length : Nat)] rfl (by kernel_rfl) (by kernel_rfl) (by kernel_rfl) (fun _ _ _ h => h) (by rfl) rfl rfl (fun w' h' => h'.at_off (.tail (.head _ _)) _ hela.out) row41 hS ?_
               simp only [q0, q9, q1, q2, q3]
               refine rf 5 (.pointer (some ⟨gO, 2, none⟩)) hS ?_
               simp only [q0, q9, q1, q2, q3]
               refine rg_one 6 (v := .int .i64 oa_) rfl (by kernel_rfl) (by kernel_rfl) (by kernel_rfl) (fun _ _ _ h => h) (by rfl) rfl rfl (fun w' h' => (h'.cell (.head _ _) 2).trans rfl) one3 hS ?_
               simp only [q0, q9, q1, q2, q3]
               refine rf 7 (.pointer (some ⟨gO, 3, none⟩)) hS ?_
               simp only [q0, q9, q1, q2, q3]
               refine rg_one 8 (v := .int .i64 on_) rfl (by kernel_rfl) (by kernel_rfl) (by kernel_rfl) (fun _ _ _ h => h) (by rfl) rfl rfl (fun w' h' => (h'.cell (.head _ _) 3).trans rfl) one3 hS ?_
               simp only [q0, q9, q1, q2, q3]
               refine reg_step 9 (by kernel_rfl) rfl ?_
               refine call_fn rfl (by rfl) cf28 (cread_bad (c := ⟨.slice xa L.length xk, L, b⟩) (v := (b.length : Nat)) hM hc1 hI1 (List.mem_cons_self ..) (by simp only; omega) oa_ on_ hbad rfl) (by simp only [List.map_toArray, List.map_cons, List.map_nil]; rfl) ?_
               clear hM
               rintro e w4 ⟨rfl, hM⟩
               refine ⟨_, rfl, ?_⟩
               clear hS
               have hS := hM.swap.none.swap
               refine ⟨hS, ?_⟩
               simp only [q0, q9, q1, q2, q3]
               refine rf 10 (.tuple #[.slice none 0 0, .int .i64 1]) hS ?_
               simp only [q0, q9, q1, q2, q3]
               refine rf 11 (.slice none 0 0) hS ?_
               simp only [q0, q9, q1, q2, q3]
               refine rf 12 (.int .i64 1) hS ?_
               simp only [q0, q9, q1, q2, q3]
               refine rf 13 (.slice none 0 0) hS ?_
               simp only [q0, q9, q1, q2, q3]
               refine rf 14 (.int .i64 1) hS ?_
               simp only [q0, q9, q1, q2, q3]
               refine reg_done (by kernel_rfl) ?_
               clear hS
               go_wp2_with ((with_reducible refine wpl ?_); (first | (apply al_box (hM := hM); rfl; rfl; (first | (focus (go_simp; done)) | (focus (go_simp; rfl))); clear hM; intro gb w1 hM; dsimp only [Value.cells] at hM) | (apply al_zero (hM := hM); rfl; rfl; (first | exact zero41 | exact zero68); clear hM; intro gz w1 hM; dsimp only [Value.cells] at hM) | (apply ld_row (hM := hM); rfl; rfl; rfl; (repeat first | exact .head _ _ | apply Pick.tail); (first | exact row41 | exact row68)) | (apply st_row (hM := hM); rfl; rfl; rfl; (first | (focus (go_simp; done)) | (focus (go_simp; rfl))); (repeat first | exact .head _ _ | apply Pick.tail); rfl; rfl; (first | exact row41 | exact row68); intro w1 hM1; clear hM; (try simp only [q1, q2, q3] at hM1); (try rw [tab_setInt] at hM1);  have hM := hM1; clear hM1) | (apply ld_one (hM := hM); rfl; rfl; rfl; (repeat first | exact .head _ _ | apply Pick.tail); rfl; (first | exact one3 | exact one39 | exact one22 | exact one9)) | (apply st_cell (hM := hM); rfl; rfl; rfl; (first | (focus (go_simp; done)) | (focus (go_simp; rfl))); (repeat first | exact .head _ _ | apply Pick.tail); simp; rfl; (first | exact one3 | exact one39 | exact one22 | exact one9); intro w1 hM1; clear hM; (try simp only [q1, q2, q3] at hM1); (try rw [tab_setInt] at hM1);  have hM := hM1; clear hM1)); simp only [q0, q9, q1, q2, q3])
               refine reg_begin (fun w' => Mem B w' [] [⟨gO, #[.int .i64 ok_, .int .i64 op_, .int .i64 oa_, .int .i64 on_, .slice tb td.length tc], 68, (0, 0)⟩, ⟨ga, ca, 41, (0, 0)⟩, ⟨gw, cw, 9, (0, 0)⟩]) (by kernel_rfl) hM (fun wd hMd => ?_)
               clear hM
               have hM := hMd
               clear hMd
               have hS := hM.swap.none.swap
               refine rf 0 (.pointer (some ⟨gO, 2, none⟩)) hS ?_
               simp only [q0, q9, q1, q2, q3]
               refine rg_one 1 (v := .int .i64 oa_) rfl (by kernel_rfl) (by kernel_rfl) (by kernel_rfl) (fun _ _ _ h => h) (by rfl) rfl rfl (fun w' h' => (h'.cell (.head _ _) 2).trans rfl) one3 hS ?_
               simp only [q0, q9, q1, q2, q3]
               refine rf 2 (.bool true) hS ?_
               simp only [q0, q9, q1, q2, q3]
               refine rf 3 (.bool true) hS ?_
               simp only [q0, q9, q1, q2, q3]
               refine rf 4 (.pointer (some ⟨gO, 2, none⟩)) hS ?_
               simp only [q0, q9, q1, q2, q3]
               refine rg_one 5 (v := .int .i64 oa_) rfl (by kernel_rfl) (by kernel_rfl) (by kernel_rfl) (fun _ _ _ h => h) (by rfl) rfl rfl (fun w' h' => (h'.cell (.head _ _) 2).trans rfl) one3 hS ?_
               simp only [q0, q9, q1, q2, q3]
               refine rf 6 (.slice (some ⟨gw, 0, none⟩) wn wc) hS ?_
               simp only [q0, q9, q1, q2, q3]
               refine rf 7 (.int .i64 (i : Nat)) hS ?_
               simp only [q0, q9, q1, q2, q3]
               refine rf 8 (.pointer (some ⟨gw, i, none⟩)) hS ?_
               simp only [q0, q9, q1, q2, q3]
               refine rg_one 9 (v := .string ⟨b.toArray⟩) rfl (by kernel_rfl) (by kernel_rfl) (by kernel_rfl) (fun _ _ _ h => h) (by rfl) rfl rfl (fun w' h' => (h'.cell (.tail (.tail (.head _ _))) i).trans helw.out) one9 hS ?_
               simp only [q0, q9, q1, q2, q3]
               refine rf 10 (.int .i64 (b.length : Nat)) hS ?_
               simp only [q0, q9, q1, q2, q3]
               refine rf 11 (.bool true) hS ?_
               simp only [q0, q9, q1, q2, q3]
               refine rf 12 (.bool true) hS ?_
               simp only [q0, q9, q1, q2, q3]
               refine rf 13 (.bool true) hS ?_
               simp only [q0, q9, q1, q2, q3]
               refine rf 14 (.pointer (some ⟨gO, 3, none⟩)) hS ?_
               simp only [q0, q9, q1, q2, q3]
               refine rg_one 15 (v := .int .i64 on_) rfl (by kernel_rfl) (by kernel_rfl) (by kernel_rfl) (fun _ _ _ h => h) (by rfl) rfl rfl (fun w' h' => (h'.cell (.head _ _) 3).trans rfl) one3 hS ?_
               simp only [q0, q9, q1, q2, q3]
               refine rf 16 (.bool true) hS ?_
               simp only [q0, q9, q1, q2, q3]
               refine rf 17 (.bool true) hS ?_
               simp only [q0, q9, q1, q2, q3]
               refine rf 18 (.bool true) hS ?_
               simp only [q0, q9, q1, q2, q3]
               refine rf 19 (.pointer (some ⟨gO, 3, none⟩)) hS ?_
               simp only [q0, q9, q1, q2, q3]
               refine rg_one 20 (v := .int .i64 on_) rfl (by kernel_rfl) (by kernel_rfl) (by kernel_rfl) (fun _ _ _ h => h) (by rfl) rfl rfl (fun w' h' => (h'.cell (.head _ _) 3).trans rfl) one3 hS ?_
               simp only [q0, q9, q1, q2, q3]
               refine rf 21 (.slice (some ⟨gw, 0, none⟩) wn wc) hS ?_
               simp only [q0, q9, q1, q2, q3]
               refine rf 22 (.int .i64 (i : Nat)) hS ?_
               simp only [q0, q9, q1, q2, q3]
               refine rf 23 (.pointer (some ⟨gw, i, none⟩)) hS ?_
               simp only [q0, q9, q1, q2, q3]
               refine rg_one 24 (v := .string ⟨b.toArray⟩) rfl (by kernel_rfl) (by kernel_rfl) (by kernel_rfl) (fun _ _ _ h => h) (by rfl) rfl rfl (fun w' h' => (h'.cell (.tail (.tail (.head _ _))) i).trans helw.out) one9 hS ?_
               simp only [q0, q9, q1, q2, q3]
               refine rf 25 (.int .i64 (b.length : Nat)) hS ?_
               simp only [q0, q9, q1, q2, q3]
               refine rf 26 (.pointer (some ⟨gO, 2, none⟩)) hS ?_
               simp only [q0, q9, q1, q2, q3]
               refine rg_one 27 (v := .int .i64 oa_) rfl (by kernel_rfl) (by kernel_rfl) (by kernel_rfl) (fun _ _ _ h => h) (by rfl) rfl rfl (fun w' h' => (h'.cell (.head _ _) 2).trans rfl) one3 hS ?_
               simp only [q0, q9, q1, q2, q3]
               refine rf 28 (.int .i64 ((b.length : Int) - oa_)) hS ?_
               simp only [q0, q9, q1, q2, q3]
               refine rf 29 (.bool false) hS ?_
               simp only [q0, q9, q1, q2, q3]
               refine rf 30 (.bool false) hS ?_
               simp only [q0, q9, q1, q2, q3]
               refine rf 31 (.bool false) hS ?_
               simp only [q0, q9, q1, q2, q3]
               refine reg_done (by kernel_rfl) ?_
               clear hS
               go_wp2_with ((with_reducible refine wpl ?_); (first | (apply al_box (hM := hM); rfl; rfl; (first | (focus (go_simp; done)) | (focus (go_simp; rfl))); clear hM; intro gb w1 hM; dsimp only [Value.cells] at hM) | (apply al_zero (hM := hM); rfl; rfl; (first | exact zero41 | exact zero68); clear hM; intro gz w1 hM; dsimp only [Value.cells] at hM) | (apply ld_row (hM := hM); rfl; rfl; rfl; (repeat first | exact .head _ _ | apply Pick.tail); (first | exact row41 | exact row68)) | (apply st_row (hM := hM); rfl; rfl; rfl; (first | (focus (go_simp; done)) | (focus (go_simp; rfl))); (repeat first | exact .head _ _ | apply Pick.tail); rfl; rfl; (first | exact row41 | exact row68); intro w1 hM1; clear hM; (try simp only [q1, q2, q3] at hM1); (try rw [tab_setInt] at hM1);  have hM := hM1; clear hM1) | (apply ld_one (hM := hM); rfl; rfl; rfl; (repeat first | exact .head _ _ | apply Pick.tail); rfl; (first | exact one3 | exact one39 | exact one22 | exact one9)) | (apply st_cell (hM := hM); rfl; rfl; rfl; (first | (focus (go_simp; done)) | (focus (go_simp; rfl))); (repeat first | exact .head _ _ | apply Pick.tail); simp; rfl; (first | exact one3 | exact one39 | exact one22 | exact one9); intro w1 hM1; clear hM; (try simp only [q1, q2, q3] at hM1); (try rw [tab_setInt] at hM1);  have hM := hM1; clear hM1)); simp only [q0, q9, q1, q2, q3])
               refine reg_begin (fun w' => Mem B w' [] [⟨gO, #[.int .i64 ok_, .int .i64 op_, .int .i64 oa_, .int .i64 on_, .slice tb td.length tc], 68, (0, 0)⟩, ⟨ga, ca, 41, (0, 0)⟩, ⟨gw, cw, 9, (0, 0)⟩]) (by kernel_rfl) hM (fun wd hMd => ?_)
               clear hM
               have hM := hMd
               clear hMd
               have hS := hM.swap.none.swap
               refine rf 0 (.int .i64 1) hS ?_
               simp only [q0, q9, q1, q2, q3]
               refine rf 1 (.bool false) hS ?_
               simp only [q0, q9, q1, q2, q3]
               refine rf 2 (.bool false) hS ?_
               simp only [q0, q9, q1, q2, q3]
               refine rf 3 (.bool false) hS ?_
               simp only [q0, q9, q1, q2, q3]
               refine rf 4 (.bool false) hS ?_
               simp only [q0, q9, q1, q2, q3]
               refine rf 5 (.bool false) hS ?_
               simp only [q0, q9, q1, q2, q3]
               refine rf 6 (.bool false) hS ?_
               simp only [q0, q9, q1, q2, q3]
               refine rk 7 hS ?_
               simp only [q0, q9, q1, q2, q3]
               refine rk 8 hS ?_
               simp only [q0, q9, q1, q2, q3]
               refine rk 9 hS ?_
               simp only [q0, q9, q1, q2, q3]
               refine rk 10 hS ?_
               simp only [q0, q9, q1, q2, q3]
               refine rk 11 hS ?_
               simp only [q0, q9, q1, q2, q3]
               refine rk 12 hS ?_
               simp only [q0, q9, q1, q2, q3]
               refine rk 13 hS ?_
               simp only [q0, q9, q1, q2, q3]
               refine rk 14 hS ?_
               simp only [q0, q9, q1, q2, q3]
               refine rk 15 hS ?_
               simp only [q0, q9, q1, q2, q3]
               refine rk 16 hS ?_
               simp only [q0, q9, q1, q2, q3]
               refine rk 17 hS ?_
               simp only [q0, q9, q1, q2, q3]
               refine rk 18 hS ?_
               simp only [q0, q9, q1, q2, q3]
               refine rk 19 hS ?_
               simp only [q0, q9, q1, q2, q3]
               refine rk 20 hS ?_
               simp only [q0, q9, q1, q2, q3]
               refine rk 21 hS ?_
               simp only [q0, q9, q1, q2, q3]
               refine rf 22 (.bool false) hS ?_
               simp only [q0, q9, q1, q2, q3]
               refine rf 23 (.bool false) hS ?_
               simp only [q0, q9, q1, q2, q3]
               refine rf 24 (.bool false) hS ?_
               simp only [q0, q9, q1, q2, q3]
               refine rf 25 (.bool false) hS ?_
               simp only [q0, q9, q1, q2, q3]
               refine rf 26 (.bool true) hS ?_
               simp only [q0, q9, q1, q2, q3]
               refine rf 27 (.bool true) hS ?_
               simp only [q0, q9, q1, q2, q3]
               refine rf 28 (.int .i64 1) hS ?_
               simp only [q0, q9, q1, q2, q3]
               refine rf 29 (.bool false) hS ?_
               simp only [q0, q9, q1, q2, q3]
               refine rf 30 (.bool false) hS ?_
               simp only [q0, q9, q1, q2, q3]
               refine rf 31 (.bool false) hS ?_
               simp only [q0, q9, q1, q2, q3]
               refine reg_done (by kernel_rfl) ?_
               clear hS
               go_wp2_with ((with_reducible refine wpl ?_); (first | (apply al_box (hM := hM); rfl; rfl; (first | (focus (go_simp; done)) | (focus (go_simp; rfl))); clear hM; intro gb w1 hM; dsimp only [Value.cells] at hM) | (apply al_zero (hM := hM); rfl; rfl; (first | exact zero41 | exact zero68); clear hM; intro gz w1 hM; dsimp only [Value.cells] at hM) | (apply ld_row (hM := hM); rfl; rfl; rfl; (repeat first | exact .head _ _ | apply Pick.tail); (first | exact row41 | exact row68)) | (apply st_row (hM := hM); rfl; rfl; rfl; (first | (focus (go_simp; done)) | (focus (go_simp; rfl))); (repeat first | exact .head _ _ | apply Pick.tail); rfl; rfl; (first | exact row41 | exact row68); intro w1 hM1; clear hM; (try simp only [q1, q2, q3] at hM1); (try rw [tab_setInt] at hM1);  have hM := hM1; clear hM1) | (apply ld_one (hM := hM); rfl; rfl; rfl; (repeat first | exact .head _ _ | apply Pick.tail); rfl; (first | exact one3 | exact one39 | exact one22 | exact one9)) | (apply st_cell (hM := hM); rfl; rfl; rfl; (first | (focus (go_simp; done)) | (focus (go_simp; rfl))); (repeat first | exact .head _ _ | apply Pick.tail); simp; rfl; (first | exact one3 | exact one39 | exact one22 | exact one9); intro w1 hM1; clear hM; (try simp only [q1, q2, q3] at hM1); (try rw [tab_setInt] at hM1);  have hM := hM1; clear hM1)); simp only [q0, q9, q1, q2, q3])
               go_roundw
               case rel => exact ⟨j + 1, ss, B, cs, _, _, _, _, by omega, by go_num, rfl, rfl, hle, hcs, hIs, hid_ (by have := hjl.out; omega), hid_ (fun d hd => by have := hdl.out d hd; omega), hTa, hTw, hM.tail⟩
               case measure => simp [intOf]; omega
          have s0 : (ok_ == 0) = false := beq_eq_false_iff_ne.2 (by omega)
          have s1 : (ok_ == 1) = false := beq_eq_false_iff_ne.2 (by omega)
          have s2 : (ok_ == 2) = false := beq_eq_false_iff_ne.2 (by omega)
          have s3 : (ok_ == 3) = false := beq_eq_false_iff_ne.2 (by omega)
          as_aux_lemma =>
           go_wp2_with ((with_reducible refine wpl ?_); (first | (apply al_box (hM := hM); rfl; rfl; (first | (focus (go_simp; done)) | (focus (go_simp; rfl))); clear hM; intro gb w1 hM; dsimp only [Value.cells] at hM) | (apply al_zero (hM := hM); rfl; rfl; (first | exact zero41 | exact zero68); clear hM; intro gz w1 hM; dsimp only [Value.cells] at hM) | (apply ld_row (hM := hM); rfl; rfl; rfl; (repeat first | exact .head _ _ | apply Pick.tail); (first | exact row41 | exact row68)) | (apply st_row (hM := hM); rfl; rfl; rfl; (first | (focus (go_simp; done)) | (focus (go_simp; rfl))); (repeat first | exact .head _ _ | apply Pick.tail); rfl; rfl; (first | exact row41 | exact row68); intro w1 hM1; clear hM; (try simp only [q1, q2, q3] at hM1); (try rw [tab_setInt] at hM1);  have hM := hM1; clear hM1) | (apply ld_one (hM := hM); rfl; rfl; rfl; (repeat first | exact .head _ _ | apply Pick.tail); rfl; (first | exact one3 | exact one39 | exact one22 | exact one9)) | (apply st_cell (hM := hM); rfl; rfl; rfl; (first | (focus (go_simp; done)) | (focus (go_simp; rfl))); (repeat first | exact .head _ _ | apply Pick.tail); simp; rfl; (first | exact one3 | exact one39 | exact one22 | exact one9); intro w1 hM1; clear hM; (try simp only [q1, q2, q3] at hM1); (try rw [tab_setInt] at hM1);  have hM := hM1; clear hM1)); simp only [q0, q9, q1, q2, q3])
           go_roundw
           case rel => exact ⟨j + 1, ss, B, cs, _, _, _, _, by omega, by go_num, rfl, rfl, hle, hcs, hIs, hid_ (by have := hjl.out; omega), hid_ (fun d hd => by have := hdl.out d hd; omega), hTa, hTw, hM.tail⟩
           case measure => simp [intOf]; omega
    · have t1 : decide ((td.length : Int) > 1000) = true := decide_eq_true (by omega)
      go_wp2_with ((with_reducible refine wpl ?_); (first | (apply ld_any [.int .i64 ok_, .int .i64 op_, .int .i64 oa_, .int .i64 on_, .slice tb td.length tc]; rfl; rfl; rfl; exact (fun i u hu => came_cell (hle.mem hM) (hrec.out i u hu)); exact row68) | (apply al_box (hM := hM); rfl; rfl; (first | (focus (go_simp; done)) | (focus (go_simp; rfl))); clear hM; intro gb w1 hM; dsimp only [Value.cells] at hM) | (apply al_zero (hM := hM); rfl; rfl; (first | exact zero41 | exact zero68); clear hM; intro gz w1 hM; dsimp only [Value.cells] at hM) | (apply ld_row (hM := hM); rfl; rfl; rfl; (repeat first | exact .head _ _ | apply Pick.tail); (first | exact row41 | exact row68)) | (apply st_row (hM := hM); rfl; rfl; rfl; (first | (focus (go_simp; done)) | (focus (go_simp; rfl))); (repeat first | exact .head _ _ | apply Pick.tail); rfl; rfl; (first | exact row41 | exact row68); intro w1 hM1; clear hM; (try simp only [q1, q2, q3] at hM1); (try rw [tab_setInt] at hM1);  have hM := hM1; clear hM1) | (apply ld_one (hM := hM); rfl; rfl; rfl; (repeat first | exact .head _ _ | apply Pick.tail); rfl; (first | exact one3 | exact one39 | exact one22 | exact one9)) | (apply st_cell (hM := hM); rfl; rfl; rfl; (first | (focus (go_simp; done)) | (focus (go_simp; rfl))); (repeat first | exact .head _ _ | apply Pick.tail); simp; rfl; (first | exact one3 | exact one39 | exact one22 | exact one9); intro w1 hM1; clear hM; (try simp only [q1, q2, q3] at hM1); (try rw [tab_setInt] at hM1);  have hM := hM1; clear hM1)); simp only [q0, q9, q1, q2, q3])
      go_ret
      exact ⟨rfl, (hle.mem hM).below⟩
  · obtain rfl : j = ops.length := by omega
    as_aux_lemma =>
     obtain ⟨ab, an, ac, rfl, hFa⟩ := hTa.slice
     obtain ⟨wb, wn, wc, rfl, hFw⟩ := hTw.slice
     have han : Hid (an = cs.length) := hid_ (by rw [flat_len ctc 2 (ctc_len _)] at hFa; omega)
     have hwn : Hid (wn = cs.length) := hid_ (by rw [flat_len cws 1 (cws_len _)] at hFw; omega)
     have hanb : an ≤ 100 := by have h1 := han.out; have h2 := hjl.out; omega
     have hwnb : wn ≤ 100 := by have h1 := hwn.out; have h2 := hjl.out; omega
     clear hFa hFw hlt hj
     go_wp2_with ((with_reducible refine wpl ?_); (first | (apply al_box (hM := hM); rfl; rfl; (first | (focus (go_simp; done)) | (focus (go_simp; rfl))); clear hM; intro gb w1 hM; dsimp only [Value.cells] at hM) | (apply al_zero (hM := hM); rfl; rfl; (first | exact zero41 | exact zero68); clear hM; intro gz w1 hM; dsimp only [Value.cells] at hM) | (apply ld_row (hM := hM); rfl; rfl; rfl; (repeat first | exact .head _ _ | apply Pick.tail); (first | exact row41 | exact row68)) | (apply st_row (hM := hM); rfl; rfl; rfl; (first | (focus (go_simp; done)) | (focus (go_simp; rfl))); (repeat first | exact .head _ _ | apply Pick.tail); rfl; rfl; (first | exact row41 | exact row68); intro w1 hM1; clear hM; (try simp only [q1, q2, q3] at hM1); (try rw [tab_setInt] at hM1);  have hM := hM1; clear hM1) | (apply ld_one (hM := hM); rfl; rfl; rfl; (repeat first | exact .head _ _ | apply Pick.tail); rfl; (first | exact one3 | exact one39 | exact one22 | exact one9)) | (apply st_cell (hM := hM); rfl; rfl; rfl; (first | (focus (go_simp; done)) | (focus (go_simp; rfl))); (repeat first | exact .head _ _ | apply Pick.tail); simp; rfl; (first | exact one3 | exact one39 | exact one22 | exact one9); intro w1 hM1; clear hM; (try simp only [q1, q2, q3] at hM1); (try rw [tab_setInt] at hM1);  have hM := hM1; clear hM1)); simp only [q0, q9, q1, q2, q3])
     go_loopw [294] (fun xi wr => ∃ (i : Nat) (B4 : Base), i ≤ an ∧ xi = .int .i64 i ∧ Le B B4 ∧ Mem B4 wr (arena p ss) (Ra ++ Rw)) (fun xi _ => an - (intOf xi).toNat)
     case atStart => exact ⟨0, B, Nat.zero_le _, by go_num, Le.refl _, hM⟩
     case round =>
      obtain ⟨i, B4, hi, rfl, hl4, hMr⟩ := hrel
      clear hM
      have hM := hMr
      clear hMr
      by_cases hlt : i < an
      · as_aux_lemma =>
         have hn1 : 0 < an := by omega
         have hwn1 : 0 < wn := by have h1 := han.out; have h2 := hwn.out; omega
         obtain ⟨ga, ca, rfl, rfl, hca, hacl, hcea⟩ := hTa.inv hn1
         obtain ⟨gw, cw, rfl, rfl, hcw, hwcl, hcew⟩ := hTw.inv hwn1
         simp only [List.cons_append, List.nil_append] at hM
         have hics : i < cs.length := by have := han.out; omega
         have hiwn : i < wn := by have h1 := han.out; have h2 := hwn.out; omega
         have hi0 : (0 : Int) ≤ (i : Int) := by omega
         have hi1 : (i : Int) < (an : Int) := by omega
         have hi2 : (i : Int) < (wn : Int) := by omega
         obtain ⟨ci, hci⟩ : ∃ c, Hid (c = cs[i]) := ⟨_, hid_ rfl⟩
         have hmem : ci ∈ cs := by rw [hci.out]; exact List.getElem_mem _
         have hela : Hid (∀ q v, (ctc ci)[q]? = some v → ca[i * 2 + q]? = some v) := hid_ (fun q v hq => by
          have h1 : q < 2 := (List.getElem?_eq_some_iff.1 hq).1
          rw [hcea.out _ (by omega), flat_at ctc 2 (ctc_len _) hics q h1, ← hci.out]
          exact hq)
         have helw : Hid (cw[i]? = some (.string ⟨ci.b.toArray⟩)) := hid_ (by
          have h2 := flat_at cws 1 (cws_len _) hics 0 (by omega)
          rw [Nat.mul_one, Nat.add_zero] at h2
          rw [hcew.out _ (by omega), h2, ← hci.out]
          rfl)
         have hIx := hIs _ hmem
         have hbl := hdl.out _ hmem
         have hdrop : Hid (cs.drop i = ci :: cs.drop (i + 1)) := hid_ (by rw [hci.out]; exact List.drop_eq_getElem_cons hics)
         obtain ⟨x, L, b⟩ := ci
         obtain ⟨xa, xk, hxx⟩ := (hIx _ _ _ (hl4.mem hM)).len
         simp only at hxx hbl
         subst hxx
         have hela : Hid (∀ q v, [Value.slice xa L.length xk, .int .i64 (b.length : Nat)][q]? = some v → ca[i * 2 + q]? = some v) := hela
         have helw : Hid (cw[i]? = some (.string ⟨b.toArray⟩)) := helw
         have hblb : b.length ≤ 60000 := by omega
         go_wp2_with ((with_reducible refine wpl ?_); (first | (apply ld_at (hM := hM) [.slice xa L.length xk, .int .i64 (b.length : Nat)]; rfl; rfl; rfl; (repeat first | exact .head _ _ | apply Pick.tail); exact hela.out; exact row41) | (apply al_box (hM := hM); rfl; rfl; (first | (focus (go_simp; done)) | (focus (go_simp; rfl))); clear hM; intro gb w1 hM; dsimp only [Value.cells] at hM) | (apply al_zero (hM := hM); rfl; rfl; (first | exact zero41 | exact zero68); clear hM; intro gz w1 hM; dsimp only [Value.cells] at hM) | (apply ld_row (hM := hM); rfl; rfl; rfl; (repeat first | exact .head _ _ | apply Pick.tail); (first | exact row41 | exact row68)) | (apply st_row (hM := hM); rfl; rfl; rfl; (first | (focus (go_simp; done)) | (focus (go_simp; rfl))); (repeat first | exact .head _ _ | apply Pick.tail); rfl; rfl; (first | exact row41 | exact row68); intro w1 hM1; clear hM; (try simp only [q1, q2, q3] at hM1); (try rw [tab_setInt] at hM1);  have hM := hM1; clear hM1) | (apply ld_one (hM := hM); rfl; rfl; rfl; (repeat first | exact .head _ _ | apply Pick.tail); rfl; (first | exact one3 | exact one39 | exact one22 | exact one9)) | (apply st_cell (hM := hM); rfl; rfl; rfl; (first | (focus (go_simp; done)) | (focus (go_simp; rfl))); (repeat first | exact .head _ _ | apply Pick.tail); simp; rfl; (first | exact one3 | exact one39 | exact one22 | exact one9); intro w1 hM1; clear hM; (try simp only [q1, q2, q3] at hM1); (try rw [tab_setInt] at hM1);  have hM := hM1; clear hM1)); simp only [q0, q9, q1, q2, q3])
         obtain ⟨gC, rfl⟩ : ∃ g : Nat, g = gz := ⟨_, rfl⟩
         refine reg_begin (fun w' => Mem B4 w' [] [⟨gC, #[.slice xa L.length xk, .int .i64 (b.length : Nat)], 41, (0, 0)⟩, ⟨ga, ca, 41, (0, 0)⟩, ⟨gw, cw, 9, (0, 0)⟩]) (by kernel_rfl) hM (fun wd hMd => ?_)
         clear hM
         have hM := hMd
         clear hMd
         have hS := hM.swap.none.swap
         refine rf 0 (own p) hS ?_
         simp only [q0, q9, q1, q2, q3]
         refine rg_row 1 [.slice xa L.length xk, .int .i64 (b.length : Nat)] rfl (by kernel_rfl) (by kernel_rfl) (by kernel_rfl) (fun _ _ _ h => h) (by rfl) rfl rfl (fun w' h' => h'.at_off (.head _ _) _ (fun q v hq => by rw [Nat.zero_add]; simpa using hq)) row41 hS ?_
         simp only [q0, q9, q1, q2, q3]
         refine rf 2 (.slice (some ⟨gw, 0, none⟩) wn wc) hS ?_
         simp only [q0, q9, q1, q2, q3]
         refine rf 3 (.int .i64 (i : Nat)) hS ?_
         simp only [q0, q9, q1, q2, q3]
         refine rf 4 (.pointer (some ⟨gw, i, none⟩)) hS ?_
         simp only [q0, q9, q1, q2, q3]
         refine rg_one 5 (v := .string ⟨b.toArray⟩) rfl (by kernel_rfl) (by kernel_rfl) (by kernel_rfl) (fun _ _ _ h => h) (by rfl) rfl rfl (fun w' h' => (h'.cell (.tail (.tail (.head _ _))) i).trans helw.out) one9 hS ?_
         simp only [q0, q9, q1, q2, q3]
         refine rf 6 (.int .i64 (b.length : Nat)) hS ?_
         simp only [q0, q9, q1, q2, q3]
         refine reg_step 7 (by kernel_rfl) rfl ?_
         refine call_fn rfl (by rfl) cf28 (cread (c := ⟨.slice xa L.length xk, L, b⟩) (v := (b.length : Nat)) (vq := 0) (vk := (b.length : Nat)) hM hcs (hIs.le hl4) hmem (by simp only; omega) 0 b.length (by simp) rfl rfl rfl) (by simp only [List.map_toArray, List.map_cons, List.map_nil]; rfl) ?_
         rintro e w4 ⟨g5, k5, cells5, rfl, hM1, hs5, hk5, hg5⟩
         clear hM
         have hg5 := hid_ hg5
         obtain ⟨B5, hl5, hM2, hr5⟩ := parkedB hM1 b rfl hk5 (fun j hj => by rw [hg5.out j hj, List.drop_zero, List.take_length])
         clear hM1 hs5
         have hM := hM2
         clear hM2
         refine ⟨_, rfl, ?_⟩
         clear hS
         have hS := (hl5.mem hM).swap.none.swap
         refine ⟨hS, ?_⟩
         simp only [q0, q9, q1, q2, q3]
         refine rf 8 (.tuple #[.slice (some ⟨g5, 0, none⟩) b.length k5, .int .i64 0]) hS ?_
         simp only [q0, q9, q1, q2, q3]
         refine rf 9 (.slice (some ⟨g5, 0, none⟩) b.length k5) hS ?_
         simp only [q0, q9, q1, q2, q3]
         refine rf 10 (.int .i64 0) hS ?_
         simp only [q0, q9, q1, q2, q3]
         refine rf 11 (.slice (some ⟨g5, 0, none⟩) b.length k5) hS ?_
         simp only [q0, q9, q1, q2, q3]
         refine rf 12 (.int .i64 0) hS ?_
         simp only [q0, q9, q1, q2, q3]
         refine reg_done (by kernel_rfl) ?_
         clear hS
         go_wp2_with ((with_reducible refine wpl ?_); (first | (apply al_box (hM := hM); rfl; rfl; (first | (focus (go_simp; done)) | (focus (go_simp; rfl))); clear hM; intro gb w1 hM; dsimp only [Value.cells] at hM) | (apply al_zero (hM := hM); rfl; rfl; (first | exact zero41 | exact zero68); clear hM; intro gz w1 hM; dsimp only [Value.cells] at hM) | (apply ld_row (hM := hM); rfl; rfl; rfl; (repeat first | exact .head _ _ | apply Pick.tail); (first | exact row41 | exact row68)) | (apply st_row (hM := hM); rfl; rfl; rfl; (first | (focus (go_simp; done)) | (focus (go_simp; rfl))); (repeat first | exact .head _ _ | apply Pick.tail); rfl; rfl; (first | exact row41 | exact row68); intro w1 hM1; clear hM; (try simp only [q1, q2, q3] at hM1); (try rw [tab_setInt] at hM1);  have hM := hM1; clear hM1) | (apply ld_one (hM := hM); rfl; rfl; rfl; (repeat first | exact .head _ _ | apply Pick.tail); rfl; (first | exact one3 | exact one39 | exact one22 | exact one9)) | (apply st_cell (hM := hM); rfl; rfl; rfl; (first | (focus (go_simp; done)) | (focus (go_simp; rfl))); (repeat first | exact .head _ _ | apply Pick.tail); simp; rfl; (first | exact one3 | exact one39 | exact one22 | exact one9); intro w1 hM1; clear hM; (try simp only [q1, q2, q3] at hM1); (try rw [tab_setInt] at hM1);  have hM := hM1; clear hM1)); simp only [q0, q9, q1, q2, q3])
         have hnL : ((L.length : Int) != (nd b.length : Int)) = false := by have := hcs.len _ hmem; simp only at this; rw [this]; simp
         refine reg_begin (fun w' => Mem B5 w' [] [⟨gC, #[.slice xa L.length xk, .int .i64 (b.length : Nat)], 41, (0, 0)⟩, ⟨ga, ca, 41, (0, 0)⟩, ⟨gw, cw, 9, (0, 0)⟩]) (by kernel_rfl) hM (fun wd hMd => ?_)
         clear hM
         have hM := hMd
         clear hMd
         have hS := hM.swap.none.swap
         refine rf 0 (.int .i64 0) hS ?_
         simp only [q0, q9, q1, q2, q3]
         refine rf 1 (.bool false) hS ?_
         simp only [q0, q9, q1, q2, q3]
         refine rf 2 (.bool false) hS ?_
         simp only [q0, q9, q1, q2, q3]
         refine rf 3 (.slice (some ⟨g5, 0, none⟩) b.length k5) hS ?_
         simp only [q0, q9, q1, q2, q3]
         refine rg_cv 4 (bs := b) rfl (by kernel_rfl) (by kernel_rfl) (by kernel_rfl) (fun _ _ _ h => h) (by rfl) rfl und22 und5 und9 (fun w' h' => hr5 w' _ _ h') hS ?_
         simp only [q0, q9, q1, q2, q3]
         refine rf 5 (.slice (some ⟨gw, 0, none⟩) wn wc) hS ?_
         simp only [q0, q9, q1, q2, q3]
         refine rf 6 (.int .i64 (i : Nat)) hS ?_
         simp only [q0, q9, q1, q2, q3]
         refine rf 7 (.pointer (some ⟨gw, i, none⟩)) hS ?_
         simp only [q0, q9, q1, q2, q3]
         refine rg_one 8 (v := .string ⟨b.toArray⟩) rfl (by kernel_rfl) (by kernel_rfl) (by kernel_rfl) (fun _ _ _ h => h) (by rfl) rfl rfl (fun w' h' => (h'.cell (.tail (.tail (.head _ _))) i).trans helw.out) one9 hS ?_
         simp only [q0, q9, q1, q2, q3]
         refine rf 9 (.bool false) hS ?_
         simp only [q0, q9, q1, q2, q3]
         refine rf 10 (.bool false) hS ?_
         simp only [q0, q9, q1, q2, q3]
         refine rf 11 (.bool false) hS ?_
         simp only [q0, q9, q1, q2, q3]
         refine rf 12 (.pointer (some ⟨gC, 1, none⟩)) hS ?_
         simp only [q0, q9, q1, q2, q3]
         refine rg_one 13 (v := .int .i64 (b.length : Nat)) rfl (by kernel_rfl) (by kernel_rfl) (by kernel_rfl) (fun _ _ _ h => h) (by rfl) rfl rfl (fun w' h' => (h'.cell (.head _ _) 1).trans rfl) one3 hS ?_
         simp only [q0, q9, q1, q2, q3]
         refine rf 14 (.slice (some ⟨gw, 0, none⟩) wn wc) hS ?_
         simp only [q0, q9, q1, q2, q3]
         refine rf 15 (.int .i64 (i : Nat)) hS ?_
         simp only [q0, q9, q1, q2, q3]
         refine rf 16 (.pointer (some ⟨gw, i, none⟩)) hS ?_
         simp only [q0, q9, q1, q2, q3]
         refine rg_one 17 (v := .string ⟨b.toArray⟩) rfl (by kernel_rfl) (by kernel_rfl) (by kernel_rfl) (fun _ _ _ h => h) (by rfl) rfl rfl (fun w' h' => (h'.cell (.tail (.tail (.head _ _))) i).trans helw.out) one9 hS ?_
         simp only [q0, q9, q1, q2, q3]
         refine rf 18 (.int .i64 (b.length : Nat)) hS ?_
         simp only [q0, q9, q1, q2, q3]
         refine rf 19 (.bool false) hS ?_
         simp only [q0, q9, q1, q2, q3]
         refine rf 20 (.bool false) hS ?_
         simp only [q0, q9, q1, q2, q3]
         refine rf 21 (.bool false) hS ?_
         simp only [q0, q9, q1, q2, q3]
         refine rf 22 (.pointer (some ⟨gC, 0, none⟩)) hS ?_
         simp only [q0, q9, q1, q2, q3]
         refine rg_one 23 (v := .slice xa L.length xk) rfl (by kernel_rfl) (by kernel_rfl) (by kernel_rfl) (fun _ _ _ h => h) (by rfl) rfl rfl (fun w' h' => (h'.cell (.head _ _) 0).trans rfl) one39 hS ?_
         simp only [q0, q9, q1, q2, q3]
         refine rf 24 (.int .i64 (L.length : Nat)) hS ?_
         simp only [q0, q9, q1, q2, q3]
         refine rf 25 (.pointer (some ⟨gC, 1, none⟩)) hS ?_
         simp only [q0, q9, q1, q2, q3]
         refine rg_one 26 (v := .int .i64 (b.length : Nat)) rfl (by kernel_rfl) (by kernel_rfl) (by kernel_rfl) (fun _ _ _ h => h) (by rfl) rfl rfl (fun w' h' => (h'.cell (.head _ _) 1).trans rfl) one3 hS ?_
         simp only [q0, q9, q1, q2, q3]
         refine reg_step 27 (by kernel_rfl) rfl ?_
         refine call_fn rfl (by rfl) cf29 (need_ hM b.length (by omega) (v := (b.length : Nat)) rfl) (by simp only [List.map_toArray, List.map_cons, List.map_nil]; rfl) ?_
         clear hM
         rintro e w7 ⟨rfl, hM⟩
         refine ⟨_, rfl, ?_⟩
         clear hS
         have hS := hM.swap.none.swap
         refine ⟨hS, ?_⟩
         simp only [q0, q9, q1, q2, q3]
         refine rf 28 (.bool false) hS ?_
         simp only [q0, q9, q1, q2, q3]
         refine rf 29 (.bool false) hS ?_
         simp only [q0, q9, q1, q2, q3]
         refine reg_done (by kernel_rfl) ?_
         clear hS
         go_wp2_with ((with_reducible refine wpl ?_); (first | (apply al_box (hM := hM); rfl; rfl; (first | (focus (go_simp; done)) | (focus (go_simp; rfl))); clear hM; intro gb w1 hM; dsimp only [Value.cells] at hM) | (apply al_zero (hM := hM); rfl; rfl; (first | exact zero41 | exact zero68); clear hM; intro gz w1 hM; dsimp only [Value.cells] at hM) | (apply ld_row (hM := hM); rfl; rfl; rfl; (repeat first | exact .head _ _ | apply Pick.tail); (first | exact row41 | exact row68)) | (apply st_row (hM := hM); rfl; rfl; rfl; (first | (focus (go_simp; done)) | (focus (go_simp; rfl))); (repeat first | exact .head _ _ | apply Pick.tail); rfl; rfl; (first | exact row41 | exact row68); intro w1 hM1; clear hM; (try simp only [q1, q2, q3] at hM1); (try rw [tab_setInt] at hM1);  have hM := hM1; clear hM1) | (apply ld_one (hM := hM); rfl; rfl; rfl; (repeat first | exact .head _ _ | apply Pick.tail); rfl; (first | exact one3 | exact one39 | exact one22 | exact one9)) | (apply st_cell (hM := hM); rfl; rfl; rfl; (first | (focus (go_simp; done)) | (focus (go_simp; rfl))); (repeat first | exact .head _ _ | apply Pick.tail); simp; rfl; (first | exact one3 | exact one39 | exact one22 | exact one9); intro w1 hM1; clear hM; (try simp only [q1, q2, q3] at hM1); (try rw [tab_setInt] at hM1);  have hM := hM1; clear hM1)); simp only [q0, q9, q1, q2, q3])
         go_roundw
         case rel => exact ⟨i + 1, B5, by omega, by go_num, hl4.trans hl5, hM.tail⟩
         case measure => simp [intOf]; omega
      · as_aux_lemma =>
         obtain rfl : i = an := by omega
         clear hlt hi
         go_wp2_with ((with_reducible refine wpl ?_); (first | (apply al_box (hM := hM); rfl; rfl; (first | (focus (go_simp; done)) | (focus (go_simp; rfl))); clear hM; intro gb w1 hM; dsimp only [Value.cells] at hM) | (apply al_zero (hM := hM); rfl; rfl; (first | exact zero41 | exact zero68); clear hM; intro gz w1 hM; dsimp only [Value.cells] at hM) | (apply ld_row (hM := hM); rfl; rfl; rfl; (repeat first | exact .head _ _ | apply Pick.tail); (first | exact row41 | exact row68)) | (apply st_row (hM := hM); rfl; rfl; rfl; (first | (focus (go_simp; done)) | (focus (go_simp; rfl))); (repeat first | exact .head _ _ | apply Pick.tail); rfl; rfl; (first | exact row41 | exact row68); intro w1 hM1; clear hM; (try simp only [q1, q2, q3] at hM1); (try rw [tab_setInt] at hM1);  have hM := hM1; clear hM1) | (apply ld_one (hM := hM); rfl; rfl; rfl; (repeat first | exact .head _ _ | apply Pick.tail); rfl; (first | exact one3 | exact one39 | exact one22 | exact one9)) | (apply st_cell (hM := hM); rfl; rfl; rfl; (first | (focus (go_simp; done)) | (focus (go_simp; rfl))); (repeat first | exact .head _ _ | apply Pick.tail); simp; rfl; (first | exact one3 | exact one39 | exact one22 | exact one9); intro w1 hM1; clear hM; (try simp only [q1, q2, q3] at hM1); (try rw [tab_setInt] at hM1);  have hM := hM1; clear hM1)); simp only [q0, q9, q1, q2, q3])
         go_loopw [343] (fun xi wr => ∃ (q : Nat) (s5 : St), q ≤ i ∧ xi = .int .i64 q ∧ Cs p s5 (cs.drop q) ∧ Mem B4 wr (arena p s5) (Ra ++ Rw)) (fun xi _ => i - (intOf xi).toNat)
         case atStart => exact ⟨0, ss, Nat.zero_le _, by go_num, hcs, hM⟩
         case round =>
          obtain ⟨q, s5, hq, rfl, hc5, hMr⟩ := hrel
          clear hM
          have hM := hMr
          clear hMr
          by_cases hlt : q < i
          · as_aux_lemma =>
             have hn1 : 0 < i := by omega
             have hwn1 : 0 < wn := by have h1 := han.out; have h2 := hwn.out; omega
             obtain ⟨ga, ca, rfl, rfl, hca, hacl, hcea⟩ := hTa.inv hn1
             obtain ⟨gw, cw, rfl, rfl, hcw, hwcl, hcew⟩ := hTw.inv hwn1
             simp only [List.cons_append, List.nil_append] at hM
             have hics : q < cs.length := by have := han.out; omega
             have hiwn : q < wn := by have h1 := han.out; have h2 := hwn.out; omega
             have hi0 : (0 : Int) ≤ (q : Int) := by omega
             have hi1 : (q : Int) < (i : Int) := by omega
             have hi2 : (q : Int) < (wn : Int) := by omega
             obtain ⟨ci, hci⟩ : ∃ c, Hid (c = cs[q]) := ⟨_, hid_ rfl⟩
             have hmem : ci ∈ cs := by rw [hci.out]; exact List.getElem_mem _
             have hela : Hid (∀ u v, (ctc ci)[u]? = some v → ca[q * 2 + u]? = some v) := hid_ (fun u v hq => by
              have h1 : u < 2 := (List.getElem?_eq_some_iff.1 hq).1
              rw [hcea.out _ (by omega), flat_at ctc 2 (ctc_len _) hics u h1, ← hci.out]
              exact hq)
             have helw : Hid (cw[q]? = some (.string ⟨ci.b.toArray⟩)) := hid_ (by
              have h2 := flat_at cws 1 (cws_len _) hics 0 (by omega)
              rw [Nat.mul_one, Nat.add_zero] at h2
              rw [hcew.out _ (by omega), h2, ← hci.out]
              rfl)
             have hIx := hIs _ hmem
             have hbl := hdl.out _ hmem
             have hdrop : Hid (cs.drop q = ci :: cs.drop (q + 1)) := hid_ (by rw [hci.out]; exact List.drop_eq_getElem_cons hics)
             obtain ⟨x, L, b⟩ := ci
             obtain ⟨xa, xk, hxx⟩ := (hIx _ _ _ (hl4.mem hM)).len
             simp only at hxx hbl
             subst hxx
             have hela : Hid (∀ u v, [Value.slice xa L.length xk, .int .i64 (b.length : Nat)][u]? = some v → ca[q * 2 + u]? = some v) := hela
             have helw : Hid (cw[q]? = some (.string ⟨b.toArray⟩)) := helw
             have hblb : b.length ≤ 60000 := by omega
             rw [hdrop.out] at hc5
             go_wp2_with ((with_reducible refine wpl ?_); (first | (apply ld_at (hM := hM) [.slice xa L.length xk, .int .i64 (b.length : Nat)]; rfl; rfl; rfl; (repeat first | exact .head _ _ | apply Pick.tail); exact hela.out; exact row41) | (apply al_box (hM := hM); rfl; rfl; (first | (focus (go_simp; done)) | (focus (go_simp; rfl))); clear hM; intro gb w1 hM; dsimp only [Value.cells] at hM) | (apply al_zero (hM := hM); rfl; rfl; (first | exact zero41 | exact zero68); clear hM; intro gz w1 hM; dsimp only [Value.cells] at hM) | (apply ld_row (hM := hM); rfl; rfl; rfl; (repeat first | exact .head _ _ | apply Pick.tail); (first | exact row41 | exact row68)) | (apply st_row (hM := hM); rfl; rfl; rfl; (first | (focus (go_simp; done)) | (focus (go_simp; rfl))); (repeat first | exact .head _ _ | apply Pick.tail); rfl; rfl; (first | exact row41 | exact row68); intro w1 hM1; clear hM; (try simp only [q1, q2, q3] at hM1); (try rw [tab_setInt] at hM1);  have hM := hM1; clear hM1) | (apply ld_one (hM := hM); rfl; rfl; rfl; (repeat first | exact .head _ _ | apply Pick.tail); rfl; (first | exact one3 | exact one39 | exact one22 | exact one9)) | (apply st_cell (hM := hM); rfl; rfl; rfl; (first | (focus (go_simp; done)) | (focus (go_simp; rfl))); (repeat first | exact .head _ _ | apply Pick.tail); simp; rfl; (first | exact one3 | exact one39 | exact one22 | exact one9); intro w1 hM1; clear hM; (try simp only [q1, q2, q3] at hM1); (try rw [tab_setInt] at hM1);  have hM := hM1; clear hM1)); simp only [q0, q9, q1, q2, q3])
             refine (cdrop (c := ⟨.slice xa L.length xk, L, b⟩) (v := (b.length : Nat)) hM hc5 (fun d hd => (hIs d (by rw [← hdrop.out] at hd; exact List.mem_of_mem_drop hd)).le hl4) (by simp only; omega) rfl).mono ?_
             clear hM
             rintro e w4 ⟨s6, rfl, hM, hc6⟩
             go_wp2_with ((with_reducible refine wpl ?_); (first | (apply al_box (hM := hM); rfl; rfl; (first | (focus (go_simp; done)) | (focus (go_simp; rfl))); clear hM; intro gb w1 hM; dsimp only [Value.cells] at hM) | (apply al_zero (hM := hM); rfl; rfl; (first | exact zero41 | exact zero68); clear hM; intro gz w1 hM; dsimp only [Value.cells] at hM) | (apply ld_row (hM := hM); rfl; rfl; rfl; (repeat first | exact .head _ _ | apply Pick.tail); (first | exact row41 | exact row68)) | (apply st_row (hM := hM); rfl; rfl; rfl; (first | (focus (go_simp; done)) | (focus (go_simp; rfl))); (repeat first | exact .head _ _ | apply Pick.tail); rfl; rfl; (first | exact row41 | exact row68); intro w1 hM1; clear hM; (try simp only [q1, q2, q3] at hM1); (try rw [tab_setInt] at hM1);  have hM := hM1; clear hM1) | (apply ld_one (hM := hM); rfl; rfl; rfl; (repeat first | exact .head _ _ | apply Pick.tail); rfl; (first | exact one3 | exact one39 | exact one22 | exact one9)) | (apply st_cell (hM := hM); rfl; rfl; rfl; (first | (focus (go_simp; done)) | (focus (go_simp; rfl))); (repeat first | exact .head _ _ | apply Pick.tail); simp; rfl; (first | exact one3 | exact one39 | exact one22 | exact one9); intro w1 hM1; clear hM; (try simp only [q1, q2, q3] at hM1); (try rw [tab_setInt] at hM1);  have hM := hM1; clear hM1)); simp only [q0, q9, q1, q2, q3])
             go_roundw
             case rel => exact ⟨q + 1, s6, by omega, by go_num, hc6, hM.tail⟩
             case measure => simp [intOf]; omega
          · as_aux_lemma =>
             obtain rfl : q = i := by omega
             have hdz : cs.drop q = [] := List.drop_eq_nil_of_le (by have := han.out; omega)
             rw [hdz] at hc5
             clear hlt hq
             go_wp2_with ((with_reducible refine wpl ?_); (first | (apply al_box (hM := hM); rfl; rfl; (first | (focus (go_simp; done)) | (focus (go_simp; rfl))); clear hM; intro gb w1 hM; dsimp only [Value.cells] at hM) | (apply al_zero (hM := hM); rfl; rfl; (first | exact zero41 | exact zero68); clear hM; intro gz w1 hM; dsimp only [Value.cells] at hM) | (apply ld_row (hM := hM); rfl; rfl; rfl; (repeat first | exact .head _ _ | apply Pick.tail); (first | exact row41 | exact row68)) | (apply st_row (hM := hM); rfl; rfl; rfl; (first | (focus (go_simp; done)) | (focus (go_simp; rfl))); (repeat first | exact .head _ _ | apply Pick.tail); rfl; rfl; (first | exact row41 | exact row68); intro w1 hM1; clear hM; (try simp only [q1, q2, q3] at hM1); (try rw [tab_setInt] at hM1);  have hM := hM1; clear hM1) | (apply ld_one (hM := hM); rfl; rfl; rfl; (repeat first | exact .head _ _ | apply Pick.tail); rfl; (first | exact one3 | exact one39 | exact one22 | exact one9)) | (apply st_cell (hM := hM); rfl; rfl; rfl; (first | (focus (go_simp; done)) | (focus (go_simp; rfl))); (repeat first | exact .head _ _ | apply Pick.tail); simp; rfl; (first | exact one3 | exact one39 | exact one22 | exact one9); intro w1 hM1; clear hM; (try simp only [q1, q2, q3] at hM1); (try rw [tab_setInt] at hM1);  have hM := hM1; clear hM1)); simp only [q0, q9, q1, q2, q3])
             refine (free hM hc5.ok (n0 : Nat) (by rw [hc5.all, hn.out])).mono ?_
             clear hM
             rintro e w3 ⟨rfl, hM⟩
             go_wp2_with ((with_reducible refine wpl ?_); (first | (apply al_box (hM := hM); rfl; rfl; (first | (focus (go_simp; done)) | (focus (go_simp; rfl))); clear hM; intro gb w1 hM; dsimp only [Value.cells] at hM) | (apply al_zero (hM := hM); rfl; rfl; (first | exact zero41 | exact zero68); clear hM; intro gz w1 hM; dsimp only [Value.cells] at hM) | (apply ld_row (hM := hM); rfl; rfl; rfl; (repeat first | exact .head _ _ | apply Pick.tail); (first | exact row41 | exact row68)) | (apply st_row (hM := hM); rfl; rfl; rfl; (first | (focus (go_simp; done)) | (focus (go_simp; rfl))); (repeat first | exact .head _ _ | apply Pick.tail); rfl; rfl; (first | exact row41 | exact row68); intro w1 hM1; clear hM; (try simp only [q1, q2, q3] at hM1); (try rw [tab_setInt] at hM1);  have hM := hM1; clear hM1) | (apply ld_one (hM := hM); rfl; rfl; rfl; (repeat first | exact .head _ _ | apply Pick.tail); rfl; (first | exact one3 | exact one39 | exact one22 | exact one9)) | (apply st_cell (hM := hM); rfl; rfl; rfl; (first | (focus (go_simp; done)) | (focus (go_simp; rfl))); (repeat first | exact .head _ _ | apply Pick.tail); simp; rfl; (first | exact one3 | exact one39 | exact one22 | exact one9); intro w1 hM1; clear hM; (try simp only [q1, q2, q3] at hM1); (try rw [tab_setInt] at hM1);  have hM := hM1; clear hM1)); simp only [q0, q9, q1, q2, q3])
             go_ret
             exact ⟨rfl, ((hle.trans hl4).mem hM).below⟩
set_option maxRecDepth 100000 in
set_option maxHeartbeats 4000000 in
theorem plays_a (w : World) (n0 : Int) (b : Option Addr) (n c : Nat) (h : n0 < 0) : Calls Try.prog 12 #[.int .i64 n0, .slice b n c] w fun e w' => e = .returned (.bool true) ∧ Below w.heap.size w w' := by
 have hM := Mem.start w
 have d0 : decide (n0 < 0) = true := decide_eq_true (by omega)
 go_enter Try.func12, Try.ntmps12
 go_wp2_with (first | (go_at_call 27; (with_reducible refine (keeps_mem _).mono ?_); rintro e w3 ⟨rfl, hb⟩; replace hM := hM.step hb; clear hb) | ((with_reducible refine wpl ?_); (first | (apply al_box (hM := hM); rfl; rfl; (first | (focus (go_simp; done)) | (focus (go_simp; rfl))); clear hM; intro gb w1 hM; dsimp only [Value.cells] at hM) | (apply al_zero (hM := hM); rfl; rfl; (first | exact zero41); clear hM; intro gz w1 hM; dsimp only [Value.cells] at hM) | (apply ld_row (hM := hM); rfl; rfl; rfl; (repeat first | exact .head _ _ | apply Pick.tail); (first | exact row41)) | (apply st_row (hM := hM); rfl; rfl; rfl; (first | (focus (go_simp; done)) | (focus (go_simp; rfl))); (repeat first | exact .head _ _ | apply Pick.tail); rfl; rfl; (first | exact row41); intro w1 hM1; clear hM; (try simp only [q1, q2, q3] at hM1); (try rw [tab_setInt] at hM1);  have hM := hM1; clear hM1) | (apply ld_one (hM := hM); rfl; rfl; rfl; (repeat first | exact .head _ _ | apply Pick.tail); rfl; (first | exact one3)) | (apply st_cell (hM := hM); rfl; rfl; rfl; (first | (focus (go_simp; done)) | (focus (go_simp; rfl))); (repeat first | exact .head _ _ | apply Pick.tail); simp; rfl; (first | exact one3); intro w1 hM1; clear hM; (try simp only [q1, q2, q3] at hM1); (try rw [tab_setInt] at hM1);  have hM := hM1; clear hM1)); simp only [q0, q9, q1, q2, q3]))
 go_ret
 exact ⟨rfl, hM.below⟩

set_option maxRecDepth 100000 in
set_option maxHeartbeats 4000000 in
theorem plays_b (w : World) (n0 : Int) (b : Option Addr) (n c : Nat) (h : 0 ≤ n0) (h2 : 200 < n0) : Calls Try.prog 12 #[.int .i64 n0, .slice b n c] w fun e w' => e = .returned (.bool true) ∧ Below w.heap.size w w' := by
 have hM := Mem.start w
 have d0 : decide (n0 < 0) = false := decide_eq_false (by omega)
 have d1 : decide (n0 > 200) = true := decide_eq_true (by omega)
 go_enter Try.func12, Try.ntmps12
 go_wp2_with (first | (go_at_call 27; (with_reducible refine (keeps_mem _).mono ?_); rintro e w3 ⟨rfl, hb⟩; replace hM := hM.step hb; clear hb) | ((with_reducible refine wpl ?_); (first | (apply al_box (hM := hM); rfl; rfl; (first | (focus (go_simp; done)) | (focus (go_simp; rfl))); clear hM; intro gb w1 hM; dsimp only [Value.cells] at hM) | (apply al_zero (hM := hM); rfl; rfl; (first | exact zero41); clear hM; intro gz w1 hM; dsimp only [Value.cells] at hM) | (apply ld_row (hM := hM); rfl; rfl; rfl; (repeat first | exact .head _ _ | apply Pick.tail); (first | exact row41)) | (apply st_row (hM := hM); rfl; rfl; rfl; (first | (focus (go_simp; done)) | (focus (go_simp; rfl))); (repeat first | exact .head _ _ | apply Pick.tail); rfl; rfl; (first | exact row41); intro w1 hM1; clear hM; (try simp only [q1, q2, q3] at hM1); (try rw [tab_setInt] at hM1);  have hM := hM1; clear hM1) | (apply ld_one (hM := hM); rfl; rfl; rfl; (repeat first | exact .head _ _ | apply Pick.tail); rfl; (first | exact one3)) | (apply st_cell (hM := hM); rfl; rfl; rfl; (first | (focus (go_simp; done)) | (focus (go_simp; rfl))); (repeat first | exact .head _ _ | apply Pick.tail); simp; rfl; (first | exact one3); intro w1 hM1; clear hM; (try simp only [q1, q2, q3] at hM1); (try rw [tab_setInt] at hM1);  have hM := hM1; clear hM1)); simp only [q0, q9, q1, q2, q3]))
 go_ret
 exact ⟨rfl, hM.below⟩

set_option maxRecDepth 100000 in
set_option maxHeartbeats 4000000 in
theorem plays_c (w : World) (n0 : Int) (b : Option Addr) (n c : Nat) (h : 0 ≤ n0) (h2 : n0 ≤ 200) (h3 : 60 < n) : Calls Try.prog 12 #[.int .i64 n0, .slice b n c] w fun e w' => e = .returned (.bool true) ∧ Below w.heap.size w w' := by
 have hM := Mem.start w
 have d0 : decide (n0 < 0) = false := decide_eq_false (by omega)
 have d1 : decide (n0 > 200) = false := decide_eq_false (by omega)
 have d2 : decide ((n : Int) > 60) = true := decide_eq_true (by omega)
 go_enter Try.func12, Try.ntmps12
 go_wp2_with (first | (go_at_call 27; (with_reducible refine (keeps_mem _).mono ?_); rintro e w3 ⟨rfl, hb⟩; replace hM := hM.step hb; clear hb) | ((with_reducible refine wpl ?_); (first | (apply al_box (hM := hM); rfl; rfl; (first | (focus (go_simp; done)) | (focus (go_simp; rfl))); clear hM; intro gb w1 hM; dsimp only [Value.cells] at hM) | (apply al_zero (hM := hM); rfl; rfl; (first | exact zero41); clear hM; intro gz w1 hM; dsimp only [Value.cells] at hM) | (apply ld_row (hM := hM); rfl; rfl; rfl; (repeat first | exact .head _ _ | apply Pick.tail); (first | exact row41)) | (apply st_row (hM := hM); rfl; rfl; rfl; (first | (focus (go_simp; done)) | (focus (go_simp; rfl))); (repeat first | exact .head _ _ | apply Pick.tail); rfl; rfl; (first | exact row41); intro w1 hM1; clear hM; (try simp only [q1, q2, q3] at hM1); (try rw [tab_setInt] at hM1);  have hM := hM1; clear hM1) | (apply ld_one (hM := hM); rfl; rfl; rfl; (repeat first | exact .head _ _ | apply Pick.tail); rfl; (first | exact one3)) | (apply st_cell (hM := hM); rfl; rfl; rfl; (first | (focus (go_simp; done)) | (focus (go_simp; rfl))); (repeat first | exact .head _ _ | apply Pick.tail); simp; rfl; (first | exact one3); intro w1 hM1; clear hM; (try simp only [q1, q2, q3] at hM1); (try rw [tab_setInt] at hM1);  have hM := hM1; clear hM1)); simp only [q0, q9, q1, q2, q3]))
 go_ret
 exact ⟨rfl, hM.below⟩

theorem walk (w : World) (y : Value) (ops : List Op5) (hO : Recs w 5 (OpRec w) y ops) (n0 : Int) : Calls Try.prog 12 #[.int .i64 n0, y] w fun e w' => e = .returned (.bool true) ∧ Below w.heap.size w w' := by
 by_cases h1 : n0 < 0
 · obtain ⟨b, c, rfl⟩ := hO.len
   exact plays_a w n0 b _ c h1
 by_cases h2 : 200 < n0
 · obtain ⟨b, c, rfl⟩ := hO.len
   exact plays_b w n0 b _ c (by omega) h2
 by_cases h3 : 60 < ops.length
 · obtain ⟨b, c, rfl⟩ := hO.len
   exact plays_c w n0 b _ c (by omega) (by omega) h3
 obtain ⟨n0, rfl⟩ := Int.eq_ofNat_of_zero_le (a := n0) (by omega)
 exact plays_ok w n0 y ops hO (by omega) (by omega)
end Go.Proofs.Ytiamkbmefllljaa.Plays
