/- How a header that came in is opened. No condition. -/
import Derived.Test.YtfpfdnckibaldaaWh
import Derived.Test.YtfpfdnckibaldaaRows
import Derived.OpenShut
import Derived.ChangeOld
import Derived.SizedLaws
set_option linter.unusedSimpArgs false
set_option linter.unusedVariables false
namespace Go.Proofs.Ytfpfdnckibaldaa.H
open Go.RowKit Go.ChangeShapes Go.WideShapes Go.Proofs.Ytfpfdnckibaldaa.M Go.Proofs.Ytfpfdnckibaldaa.O


theorem size_hdr {cs : Array Value} (h : cs.size = 12) : ∃ c0 c1 c2 c3 c4 c5 c6 c7 c8 c9 c10 c11, cs = #[c0, c1, c2, c3, c4, c5, c6, c7, c8, c9, c10, c11] := by
  obtain ⟨l⟩ := cs
  match l, h with
  | [c0, c1, c2, c3, c4, c5, c6, c7, c8, c9, c10, c11], _ => exact ⟨_, _, _, _, _, _, _, _, _, _, _, _, rfl⟩
theorem list_hdr {α : Type} {xs : List α} (h : xs.length = 12) : ∃ x0 x1 x2 x3 x4 x5 x6 x7 x8 x9 x10 x11, xs = [x0, x1, x2, x3, x4, x5, x6, x7, x8, x9, x10, x11] := by
  match xs, h with
  | [x0, x1, x2, x3, x4, x5, x6, x7, x8, x9, x10, x11], _ => exact ⟨_, _, _, _, _, _, _, _, _, _, _, _, rfl⟩
theorem ba_list_hdr (s : ByteArray) : ∃ l : List UInt8, s = ⟨l.toArray⟩ ∧ s.data.toList = l := ⟨s.data.toList, by cases s; simp, rfl⟩
theorem i64_lt_hdr {n : Int} (h : (Lit.int .i64 n).wf = true) : -9223372036854775808 ≤ n ∧ n < 9223372036854775808 := by
  simp [Lit.wf] at h
  have h1 : IntKind.i64.min = -9223372036854775808 := rfl
  have h2 : IntKind.i64.max = 9223372036854775807 := rfl
  omega
theorem opened_hdr {H : Type} {enc : TypeId × Value → H} {W : World} {base : Nat} {v : Value} {d : DataW H} {p : List MemPlace} (hval : Value.okWide Try.prog W .any base 23 v) (h : DataW.Trod enc Try.prog W 0 (fun _ => true) true 23 v d p) :
    ∃ (fm md ud gd sz mt : Int) (nm lk pr us gr : List UInt8) (ty : UInt8), v = .agg #[.int .i64 fm, .string ⟨nm.toArray⟩, .string ⟨lk.toArray⟩, .string ⟨pr.toArray⟩, .string ⟨us.toArray⟩, .string ⟨gr.toArray⟩, .int .u8 (ty.toNat : Int), .int .i64 md, .int .i64 ud, .int .i64 gd, .int .i64 sz, .int .i64 mt] ∧ d = .agg [.lit (.int .i64 fm), .lit (.string nm), .lit (.string lk), .lit (.string pr), .lit (.string us), .lit (.string gr), .lit (.int .u8 (ty.toNat : Int)), .lit (.int .i64 md), .lit (.int .i64 ud), .lit (.int .i64 gd), .lit (.int .i64 sz), .lit (.int .i64 mt)] ∧ (-9223372036854775808 ≤ fm ∧ fm < 9223372036854775808) ∧ (-9223372036854775808 ≤ md ∧ md < 9223372036854775808) ∧ (-9223372036854775808 ≤ ud ∧ ud < 9223372036854775808) ∧ (-9223372036854775808 ≤ gd ∧ gd < 9223372036854775808) ∧ (-9223372036854775808 ≤ sz ∧ sz < 9223372036854775808) ∧ (-9223372036854775808 ≤ mt ∧ mt < 9223372036854775808) := by
  obtain ⟨cs, rfl, hsz⟩ := okWide_struct Try.underlying23 hval
  have hC : Try.prog.cellsOf 23 = 12 := by kernel_rfl
  obtain ⟨c0, c1, c2, c3, c4, c5, c6, c7, c8, c9, c10, c11, rfl⟩ := size_hdr (hsz.trans hC)
  obtain ⟨fuel, hf⟩ := h
  obtain ⟨xs, n, _, hx, _, hlen, hfld⟩ := DataW.trod_struct Try.underlying23 hf
  have e0 : DataW.trod enc Try.prog W 0 (fun _ => true) true n 3 ((([c0, c1, c2, c3, c4, c5, c6, c7, c8, c9, c10, c11] : List Value).drop 0).take (Try.prog.cellsOf 3)) = xs[0]? := hfld 0 _ rfl
  rw [show Try.prog.cellsOf 3 = 1 by kernel_rfl] at e0
  obtain ⟨n0, q0, y0, wf0⟩ := DataW.trod_int Try.underlying3 (x := xs[0]'(by rw [hlen]; decide)) (e0.trans (List.getElem?_eq_getElem _))
  have e1 : DataW.trod enc Try.prog W 0 (fun _ => true) true n 9 ((([c0, c1, c2, c3, c4, c5, c6, c7, c8, c9, c10, c11] : List Value).drop 1).take (Try.prog.cellsOf 9)) = xs[1]? := hfld 1 _ rfl
  rw [show Try.prog.cellsOf 9 = 1 by kernel_rfl] at e1
  obtain ⟨s1, q1, y1, wf1⟩ := DataW.trod_string Try.underlying9 (x := xs[1]'(by rw [hlen]; decide)) (e1.trans (List.getElem?_eq_getElem _))
  have e2 : DataW.trod enc Try.prog W 0 (fun _ => true) true n 9 ((([c0, c1, c2, c3, c4, c5, c6, c7, c8, c9, c10, c11] : List Value).drop 2).take (Try.prog.cellsOf 9)) = xs[2]? := hfld 2 _ rfl
  rw [show Try.prog.cellsOf 9 = 1 by kernel_rfl] at e2
  obtain ⟨s2, q2, y2, wf2⟩ := DataW.trod_string Try.underlying9 (x := xs[2]'(by rw [hlen]; decide)) (e2.trans (List.getElem?_eq_getElem _))
  have e3 : DataW.trod enc Try.prog W 0 (fun _ => true) true n 9 ((([c0, c1, c2, c3, c4, c5, c6, c7, c8, c9, c10, c11] : List Value).drop 3).take (Try.prog.cellsOf 9)) = xs[3]? := hfld 3 _ rfl
  rw [show Try.prog.cellsOf 9 = 1 by kernel_rfl] at e3
  obtain ⟨s3, q3, y3, wf3⟩ := DataW.trod_string Try.underlying9 (x := xs[3]'(by rw [hlen]; decide)) (e3.trans (List.getElem?_eq_getElem _))
  have e4 : DataW.trod enc Try.prog W 0 (fun _ => true) true n 9 ((([c0, c1, c2, c3, c4, c5, c6, c7, c8, c9, c10, c11] : List Value).drop 4).take (Try.prog.cellsOf 9)) = xs[4]? := hfld 4 _ rfl
  rw [show Try.prog.cellsOf 9 = 1 by kernel_rfl] at e4
  obtain ⟨s4, q4, y4, wf4⟩ := DataW.trod_string Try.underlying9 (x := xs[4]'(by rw [hlen]; decide)) (e4.trans (List.getElem?_eq_getElem _))
  have e5 : DataW.trod enc Try.prog W 0 (fun _ => true) true n 9 ((([c0, c1, c2, c3, c4, c5, c6, c7, c8, c9, c10, c11] : List Value).drop 5).take (Try.prog.cellsOf 9)) = xs[5]? := hfld 5 _ rfl
  rw [show Try.prog.cellsOf 9 = 1 by kernel_rfl] at e5
  obtain ⟨s5, q5, y5, wf5⟩ := DataW.trod_string Try.underlying9 (x := xs[5]'(by rw [hlen]; decide)) (e5.trans (List.getElem?_eq_getElem _))
  have e6 : DataW.trod enc Try.prog W 0 (fun _ => true) true n 5 ((([c0, c1, c2, c3, c4, c5, c6, c7, c8, c9, c10, c11] : List Value).drop 6).take (Try.prog.cellsOf 5)) = xs[6]? := hfld 6 _ rfl
  rw [show Try.prog.cellsOf 5 = 1 by kernel_rfl] at e6
  obtain ⟨n6, q6, y6, wf6⟩ := DataW.trod_int Try.underlying5 (x := xs[6]'(by rw [hlen]; decide)) (e6.trans (List.getElem?_eq_getElem _))
  have e7 : DataW.trod enc Try.prog W 0 (fun _ => true) true n 2 ((([c0, c1, c2, c3, c4, c5, c6, c7, c8, c9, c10, c11] : List Value).drop 7).take (Try.prog.cellsOf 2)) = xs[7]? := hfld 7 _ rfl
  rw [show Try.prog.cellsOf 2 = 1 by kernel_rfl] at e7
  obtain ⟨n7, q7, y7, wf7⟩ := DataW.trod_int Try.underlying2 (x := xs[7]'(by rw [hlen]; decide)) (e7.trans (List.getElem?_eq_getElem _))
  have e8 : DataW.trod enc Try.prog W 0 (fun _ => true) true n 2 ((([c0, c1, c2, c3, c4, c5, c6, c7, c8, c9, c10, c11] : List Value).drop 8).take (Try.prog.cellsOf 2)) = xs[8]? := hfld 8 _ rfl
  rw [show Try.prog.cellsOf 2 = 1 by kernel_rfl] at e8
  obtain ⟨n8, q8, y8, wf8⟩ := DataW.trod_int Try.underlying2 (x := xs[8]'(by rw [hlen]; decide)) (e8.trans (List.getElem?_eq_getElem _))
  have e9 : DataW.trod enc Try.prog W 0 (fun _ => true) true n 2 ((([c0, c1, c2, c3, c4, c5, c6, c7, c8, c9, c10, c11] : List Value).drop 9).take (Try.prog.cellsOf 2)) = xs[9]? := hfld 9 _ rfl
  rw [show Try.prog.cellsOf 2 = 1 by kernel_rfl] at e9
  obtain ⟨n9, q9, y9, wf9⟩ := DataW.trod_int Try.underlying2 (x := xs[9]'(by rw [hlen]; decide)) (e9.trans (List.getElem?_eq_getElem _))
  have e10 : DataW.trod enc Try.prog W 0 (fun _ => true) true n 2 ((([c0, c1, c2, c3, c4, c5, c6, c7, c8, c9, c10, c11] : List Value).drop 10).take (Try.prog.cellsOf 2)) = xs[10]? := hfld 10 _ rfl
  rw [show Try.prog.cellsOf 2 = 1 by kernel_rfl] at e10
  obtain ⟨n10, q10, y10, wf10⟩ := DataW.trod_int Try.underlying2 (x := xs[10]'(by rw [hlen]; decide)) (e10.trans (List.getElem?_eq_getElem _))
  have e11 : DataW.trod enc Try.prog W 0 (fun _ => true) true n 2 ((([c0, c1, c2, c3, c4, c5, c6, c7, c8, c9, c10, c11] : List Value).drop 11).take (Try.prog.cellsOf 2)) = xs[11]? := hfld 11 _ rfl
  rw [show Try.prog.cellsOf 2 = 1 by kernel_rfl] at e11
  obtain ⟨n11, q11, y11, wf11⟩ := DataW.trod_int Try.underlying2 (x := xs[11]'(by rw [hlen]; decide)) (e11.trans (List.getElem?_eq_getElem _))
  simp at q0 q1 q2 q3 q4 q5 q6 q7 q8 q9 q10 q11
  subst q0 q1 q2 q3 q4 q5 q6 q7 q8 q9 q10 q11
  obtain ⟨l1, rfl, r1⟩ := ba_list_hdr s1
  rw [r1] at y1
  obtain ⟨l2, rfl, r2⟩ := ba_list_hdr s2
  rw [r2] at y2
  obtain ⟨l3, rfl, r3⟩ := ba_list_hdr s3
  rw [r3] at y3
  obtain ⟨l4, rfl, r4⟩ := ba_list_hdr s4
  rw [r4] at y4
  obtain ⟨l5, rfl, r5⟩ := ba_list_hdr s5
  rw [r5] at y5
  obtain ⟨b6, hb6⟩ := u8_of wf6
  have hv6 : n6 = (b6.toNat : Int) := by unfold u8 at hb6; simpa using hb6
  subst hv6
  have hd : d = .agg (xs.map (·.1)) := by have h9 := congrArg Prod.fst hx; simpa using h9
  have hxl : xs.map (·.1) = [.lit (.int .i64 n0), .lit (.string l1), .lit (.string l2), .lit (.string l3), .lit (.string l4), .lit (.string l5), .lit (.int .u8 (b6.toNat : Int)), .lit (.int .i64 n7), .lit (.int .i64 n8), .lit (.int .i64 n9), .lit (.int .i64 n10), .lit (.int .i64 n11)] := by
    obtain ⟨x0, x1, x2, x3, x4, x5, x6, x7, x8, x9, x10, x11, rfl⟩ := list_hdr hlen
    (try
      simp only [List.getElem_cons_zero, List.getElem_cons_succ] at y0 y1 y2 y3 y4 y5 y6 y7 y8 y9 y10 y11)
    simp only [List.map_cons, List.map_nil, y0, y1, y2, y3, y4, y5, y6, y7, y8, y9, y10, y11]
  exact ⟨n0, n7, n8, n9, n10, n11, l1, l2, l3, l4, l5, b6, rfl, by rw [hd, hxl], i64_lt_hdr wf0, i64_lt_hdr wf7, i64_lt_hdr wf8, i64_lt_hdr wf9, i64_lt_hdr wf10, i64_lt_hdr wf11⟩

theorem hdr_sized {H : Type} {fm md ud gd sz mt : Int} {nm lk pr us gr : List UInt8} {ty : UInt8} {ds : List (DataW H)} {ts : List TypeId} (h : (DataW.weightsEach Try.prog ts ds).all (· ≤ reachBytes) = true) (ht : ts[0]? = some 23) (hd : ds[0]? = some (.agg [.lit (.int .i64 fm), .lit (.string nm), .lit (.string lk), .lit (.string pr), .lit (.string us), .lit (.string gr), .lit (.int .u8 (ty.toNat : Int)), .lit (.int .i64 md), .lit (.int .i64 ud), .lit (.int .i64 gd), .lit (.int .i64 sz), .lit (.int .i64 mt)])) :
    nm.length ≤ reachBytes ∧ lk.length ≤ reachBytes ∧ pr.length ≤ reachBytes ∧ us.length ≤ reachBytes ∧ gr.length ≤ reachBytes := by
  have key : ∀ n ∈ DataW.weights Try.prog 23 (.agg [.lit (.int .i64 fm), .lit (.string nm), .lit (.string lk), .lit (.string pr), .lit (.string us), .lit (.string gr), .lit (.int .u8 (ty.toNat : Int)), .lit (.int .i64 md), .lit (.int .i64 ud), .lit (.int .i64 gd), .lit (.int .i64 sz), .lit (.int .i64 mt)] : DataW H), n ≤ reachBytes := fun n hn => by
    have := List.all_eq_true.1 h _ (DataW.weights_mem_each ht hd n hn)
    simpa using this
  simp [DataW.weightsEach, DataW.weights, Try.underlying23] at key
  exact key
theorem lens5 {fm md ud gd sz mt : Int} {nm lk pr us gr : List UInt8} {ty : UInt8} (h : nm.length ≤ reachBytes ∧ lk.length ≤ reachBytes ∧ pr.length ≤ reachBytes ∧ us.length ≤ reachBytes ∧ gr.length ≤ reachBytes) (j : Nat) (hj : j < 5) : (fs ⟨fm, nm, lk, pr, us, gr, ty, md, ud, gd, sz, mt⟩ j).length ≤ 140737488355328 := by
  have hr : reachBytes ≤ 140737488355328 := by decide
  obtain ⟨h1, h2, h3, h4, h5⟩ := h
  match j, hj with
  | 0, _ => exact Nat.le_trans h1 hr
  | 1, _ => exact Nat.le_trans h2 hr
  | 2, _ => exact Nat.le_trans h4 hr
  | 3, _ => exact Nat.le_trans h5 hr
  | 4, _ => exact Nat.le_trans h3 hr
theorem nums5 {fm md ud gd sz mt : Int} {nm lk pr us gr : List UInt8} {ty : UInt8} (h1 : md < 9223372036854775808) (h2 : ud < 9223372036854775808) (h3 : gd < 9223372036854775808) (h4 : sz < 9223372036854775808) (h5 : mt < 9223372036854775808) (j : Nat) (hj : j < 5) : fnn ⟨fm, nm, lk, pr, us, gr, ty, md, ud, gd, sz, mt⟩ j < 9223372036854775808 := by
  match j, hj with
  | 0, _ => exact h1
  | 1, _ => exact h2
  | 2, _ => exact h3
  | 3, _ => exact h4
  | 4, _ => exact h5
end Go.Proofs.Ytfpfdnckibaldaa.H
