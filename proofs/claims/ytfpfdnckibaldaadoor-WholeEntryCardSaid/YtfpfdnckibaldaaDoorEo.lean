/- How an entry and a header that came in are opened. No condition. -/
import Derived.Test.YtfpfdnckibaldaaDoorEg
import Derived.Test.YtfpfdnckibaldaaDoorRows
import Derived.OpenShut
import Derived.ChangeOld
import Derived.SizedLaws
set_option linter.unusedSimpArgs false
set_option linter.unusedVariables false
namespace Go.Proofs.YtfpfdnckibaldaaDoor.R
open Go.RowKit Go.ChangeShapes Go.WideShapes Go.Proofs.YtfpfdnckibaldaaDoor.M Go.Proofs.YtfpfdnckibaldaaDoor.D Go.Proofs.YtfpfdnckibaldaaDoor.E


theorem size_ent {cs : Array Value} (h : cs.size = 10) : ∃ c0 c1 c2 c3 c4 c5 c6 c7 c8 c9, cs = #[c0, c1, c2, c3, c4, c5, c6, c7, c8, c9] := by
  obtain ⟨l⟩ := cs
  match l, h with
  | [c0, c1, c2, c3, c4, c5, c6, c7, c8, c9], _ => exact ⟨_, _, _, _, _, _, _, _, _, _, rfl⟩
theorem list_ent {α : Type} {xs : List α} (h : xs.length = 10) : ∃ x0 x1 x2 x3 x4 x5 x6 x7 x8 x9, xs = [x0, x1, x2, x3, x4, x5, x6, x7, x8, x9] := by
  match xs, h with
  | [x0, x1, x2, x3, x4, x5, x6, x7, x8, x9], _ => exact ⟨_, _, _, _, _, _, _, _, _, _, rfl⟩
theorem ba_list_ent (s : ByteArray) : ∃ l : List UInt8, s = ⟨l.toArray⟩ ∧ s.data.toList = l := ⟨s.data.toList, by cases s; simp, rfl⟩
theorem i64_lt_ent {n : Int} (h : (Lit.int .i64 n).wf = true) : -9223372036854775808 ≤ n ∧ n < 9223372036854775808 := by
  simp [Lit.wf] at h
  have h1 : IntKind.i64.min = -9223372036854775808 := rfl
  have h2 : IntKind.i64.max = 9223372036854775807 := rfl
  omega
set_option maxRecDepth 100000 in
theorem opened_ent {H : Type} {enc : TypeId × Value → H} {W : World} {base : Nat} {v : Value} {d : DataW H} {p : List MemPlace} (hval : Value.okWide Tryd.prog W .any base 39 v) (h : DataW.Trod enc Tryd.prog W 0 (fun _ => true) true 39 v d p) :
    ∃ (k md ui gi mt sz : Int) (nm lk un gn : List UInt8) , v = .agg #[.string ⟨nm.toArray⟩, .string ⟨lk.toArray⟩, .int .i64 k, .int .i64 md, .int .i64 ui, .int .i64 gi, .int .i64 mt, .int .i64 sz, .string ⟨un.toArray⟩, .string ⟨gn.toArray⟩] ∧ d = .agg [.lit (.string nm), .lit (.string lk), .lit (.int .i64 k), .lit (.int .i64 md), .lit (.int .i64 ui), .lit (.int .i64 gi), .lit (.int .i64 mt), .lit (.int .i64 sz), .lit (.string un), .lit (.string gn)] ∧ (-9223372036854775808 ≤ k ∧ k < 9223372036854775808) ∧ (-9223372036854775808 ≤ md ∧ md < 9223372036854775808) ∧ (-9223372036854775808 ≤ ui ∧ ui < 9223372036854775808) ∧ (-9223372036854775808 ≤ gi ∧ gi < 9223372036854775808) ∧ (-9223372036854775808 ≤ mt ∧ mt < 9223372036854775808) ∧ (-9223372036854775808 ≤ sz ∧ sz < 9223372036854775808) := by
  obtain ⟨cs, rfl, hsz⟩ := okWide_struct Tryd.underlying39 hval
  have hC : Tryd.prog.cellsOf 39 = 10 := by kernel_rfl
  obtain ⟨c0, c1, c2, c3, c4, c5, c6, c7, c8, c9, rfl⟩ := size_ent (hsz.trans hC)
  obtain ⟨fuel, hf⟩ := h
  obtain ⟨xs, n, _, hx, _, hlen, hfld⟩ := DataW.trod_struct Tryd.underlying39 hf
  have e0 : DataW.trod enc Tryd.prog W 0 (fun _ => true) true n 9 ((([c0, c1, c2, c3, c4, c5, c6, c7, c8, c9] : List Value).drop 0).take (Tryd.prog.cellsOf 9)) = xs[0]? := hfld 0 _ rfl
  rw [show Tryd.prog.cellsOf 9 = 1 by kernel_rfl] at e0
  obtain ⟨s0, q0, y0, wf0⟩ := DataW.trod_string Tryd.underlying9 (x := xs[0]'(by rw [hlen]; decide)) (e0.trans (List.getElem?_eq_getElem _))
  have e1 : DataW.trod enc Tryd.prog W 0 (fun _ => true) true n 9 ((([c0, c1, c2, c3, c4, c5, c6, c7, c8, c9] : List Value).drop 1).take (Tryd.prog.cellsOf 9)) = xs[1]? := hfld 1 _ rfl
  rw [show Tryd.prog.cellsOf 9 = 1 by kernel_rfl] at e1
  obtain ⟨s1, q1, y1, wf1⟩ := DataW.trod_string Tryd.underlying9 (x := xs[1]'(by rw [hlen]; decide)) (e1.trans (List.getElem?_eq_getElem _))
  have e2 : DataW.trod enc Tryd.prog W 0 (fun _ => true) true n 3 ((([c0, c1, c2, c3, c4, c5, c6, c7, c8, c9] : List Value).drop 2).take (Tryd.prog.cellsOf 3)) = xs[2]? := hfld 2 _ rfl
  rw [show Tryd.prog.cellsOf 3 = 1 by kernel_rfl] at e2
  obtain ⟨n2, q2, y2, wf2⟩ := DataW.trod_int Tryd.underlying3 (x := xs[2]'(by rw [hlen]; decide)) (e2.trans (List.getElem?_eq_getElem _))
  have e3 : DataW.trod enc Tryd.prog W 0 (fun _ => true) true n 3 ((([c0, c1, c2, c3, c4, c5, c6, c7, c8, c9] : List Value).drop 3).take (Tryd.prog.cellsOf 3)) = xs[3]? := hfld 3 _ rfl
  rw [show Tryd.prog.cellsOf 3 = 1 by kernel_rfl] at e3
  obtain ⟨n3, q3, y3, wf3⟩ := DataW.trod_int Tryd.underlying3 (x := xs[3]'(by rw [hlen]; decide)) (e3.trans (List.getElem?_eq_getElem _))
  have e4 : DataW.trod enc Tryd.prog W 0 (fun _ => true) true n 2 ((([c0, c1, c2, c3, c4, c5, c6, c7, c8, c9] : List Value).drop 4).take (Tryd.prog.cellsOf 2)) = xs[4]? := hfld 4 _ rfl
  rw [show Tryd.prog.cellsOf 2 = 1 by kernel_rfl] at e4
  obtain ⟨n4, q4, y4, wf4⟩ := DataW.trod_int Tryd.underlying2 (x := xs[4]'(by rw [hlen]; decide)) (e4.trans (List.getElem?_eq_getElem _))
  have e5 : DataW.trod enc Tryd.prog W 0 (fun _ => true) true n 2 ((([c0, c1, c2, c3, c4, c5, c6, c7, c8, c9] : List Value).drop 5).take (Tryd.prog.cellsOf 2)) = xs[5]? := hfld 5 _ rfl
  rw [show Tryd.prog.cellsOf 2 = 1 by kernel_rfl] at e5
  obtain ⟨n5, q5, y5, wf5⟩ := DataW.trod_int Tryd.underlying2 (x := xs[5]'(by rw [hlen]; decide)) (e5.trans (List.getElem?_eq_getElem _))
  have e6 : DataW.trod enc Tryd.prog W 0 (fun _ => true) true n 2 ((([c0, c1, c2, c3, c4, c5, c6, c7, c8, c9] : List Value).drop 6).take (Tryd.prog.cellsOf 2)) = xs[6]? := hfld 6 _ rfl
  rw [show Tryd.prog.cellsOf 2 = 1 by kernel_rfl] at e6
  obtain ⟨n6, q6, y6, wf6⟩ := DataW.trod_int Tryd.underlying2 (x := xs[6]'(by rw [hlen]; decide)) (e6.trans (List.getElem?_eq_getElem _))
  have e7 : DataW.trod enc Tryd.prog W 0 (fun _ => true) true n 2 ((([c0, c1, c2, c3, c4, c5, c6, c7, c8, c9] : List Value).drop 7).take (Tryd.prog.cellsOf 2)) = xs[7]? := hfld 7 _ rfl
  rw [show Tryd.prog.cellsOf 2 = 1 by kernel_rfl] at e7
  obtain ⟨n7, q7, y7, wf7⟩ := DataW.trod_int Tryd.underlying2 (x := xs[7]'(by rw [hlen]; decide)) (e7.trans (List.getElem?_eq_getElem _))
  have e8 : DataW.trod enc Tryd.prog W 0 (fun _ => true) true n 9 ((([c0, c1, c2, c3, c4, c5, c6, c7, c8, c9] : List Value).drop 8).take (Tryd.prog.cellsOf 9)) = xs[8]? := hfld 8 _ rfl
  rw [show Tryd.prog.cellsOf 9 = 1 by kernel_rfl] at e8
  obtain ⟨s8, q8, y8, wf8⟩ := DataW.trod_string Tryd.underlying9 (x := xs[8]'(by rw [hlen]; decide)) (e8.trans (List.getElem?_eq_getElem _))
  have e9 : DataW.trod enc Tryd.prog W 0 (fun _ => true) true n 9 ((([c0, c1, c2, c3, c4, c5, c6, c7, c8, c9] : List Value).drop 9).take (Tryd.prog.cellsOf 9)) = xs[9]? := hfld 9 _ rfl
  rw [show Tryd.prog.cellsOf 9 = 1 by kernel_rfl] at e9
  obtain ⟨s9, q9, y9, wf9⟩ := DataW.trod_string Tryd.underlying9 (x := xs[9]'(by rw [hlen]; decide)) (e9.trans (List.getElem?_eq_getElem _))
  simp at q0 q1 q2 q3 q4 q5 q6 q7 q8 q9
  subst q0 q1 q2 q3 q4 q5 q6 q7 q8 q9
  obtain ⟨l0, rfl, r0⟩ := ba_list_ent s0
  rw [r0] at y0
  obtain ⟨l1, rfl, r1⟩ := ba_list_ent s1
  rw [r1] at y1
  obtain ⟨l8, rfl, r8⟩ := ba_list_ent s8
  rw [r8] at y8
  obtain ⟨l9, rfl, r9⟩ := ba_list_ent s9
  rw [r9] at y9
  have hd : d = .agg (xs.map (·.1)) := by have h9 := congrArg Prod.fst hx; simpa using h9
  have hxl : xs.map (·.1) = [.lit (.string l0), .lit (.string l1), .lit (.int .i64 n2), .lit (.int .i64 n3), .lit (.int .i64 n4), .lit (.int .i64 n5), .lit (.int .i64 n6), .lit (.int .i64 n7), .lit (.string l8), .lit (.string l9)] := by
    obtain ⟨x0, x1, x2, x3, x4, x5, x6, x7, x8, x9, rfl⟩ := list_ent hlen
    (try
      simp only [List.getElem_cons_zero, List.getElem_cons_succ] at y0 y1 y2 y3 y4 y5 y6 y7 y8 y9)
    simp only [List.map_cons, List.map_nil, y0, y1, y2, y3, y4, y5, y6, y7, y8, y9]
  exact ⟨n2, n3, n4, n5, n6, n7, l0, l1, l8, l9, rfl, by rw [hd, hxl], i64_lt_ent wf2, i64_lt_ent wf3, i64_lt_ent wf4, i64_lt_ent wf5, i64_lt_ent wf6, i64_lt_ent wf7⟩

theorem size_hdr {cs : Array Value} (h : cs.size = 12) : ∃ c0 c1 c2 c3 c4 c5 c6 c7 c8 c9 c10 c11, cs = #[c0, c1, c2, c3, c4, c5, c6, c7, c8, c9, c10, c11] := by
  obtain ⟨l⟩ := cs
  match l, h with
  | [c0, c1, c2, c3, c4, c5, c6, c7, c8, c9, c10, c11], _ => exact ⟨_, _, _, _, _, _, _, _, _, _, _, _, rfl⟩
theorem list_hdr {α : Type} {xs : List α} (h : xs.length = 12) : ∃ x0 x1 x2 x3 x4 x5 x6 x7 x8 x9 x10 x11, xs = [x0, x1, x2, x3, x4, x5, x6, x7, x8, x9, x10, x11] := by
  match xs, h with
  | [x0, x1, x2, x3, x4, x5, x6, x7, x8, x9, x10, x11], _ => exact ⟨_, _, _, _, _, _, _, _, _, _, _, _, rfl⟩
theorem ba_list_hdr (s : ByteArray) : ∃ l : List UInt8, s = ⟨l.toArray⟩ ∧ s.data.toList = l := ⟨s.data.toList, by cases s; simp, rfl⟩
theorem i64_lt_hdr {n : Int} (h : (Lit.int .i64 n).wf = true) : -9223372036854775808 ≤ n ∧ n < 9223372036854775808 := by
  simp [Lit.wf] at h
  have h1 : IntKind.i64.min = -9223372036854775808 := rfl
  have h2 : IntKind.i64.max = 9223372036854775807 := rfl
  omega
set_option maxRecDepth 100000 in
theorem opened_hdr {H : Type} {enc : TypeId × Value → H} {W : World} {base : Nat} {v : Value} {d : DataW H} {p : List MemPlace} (hval : Value.okWide Tryd.prog W .any base 41 v) (h : DataW.Trod enc Tryd.prog W 0 (fun _ => true) true 41 v d p) :
    ∃ (fm hm hi hj hs ht : Int) (hn hl hp hu hg : List UInt8) (ty : UInt8), v = .agg #[.int .i64 fm, .string ⟨hn.toArray⟩, .string ⟨hl.toArray⟩, .string ⟨hp.toArray⟩, .string ⟨hu.toArray⟩, .string ⟨hg.toArray⟩, .int .u8 (ty.toNat : Int), .int .i64 hm, .int .i64 hi, .int .i64 hj, .int .i64 hs, .int .i64 ht] ∧ d = .agg [.lit (.int .i64 fm), .lit (.string hn), .lit (.string hl), .lit (.string hp), .lit (.string hu), .lit (.string hg), .lit (.int .u8 (ty.toNat : Int)), .lit (.int .i64 hm), .lit (.int .i64 hi), .lit (.int .i64 hj), .lit (.int .i64 hs), .lit (.int .i64 ht)] ∧ (-9223372036854775808 ≤ fm ∧ fm < 9223372036854775808) ∧ (-9223372036854775808 ≤ hm ∧ hm < 9223372036854775808) ∧ (-9223372036854775808 ≤ hi ∧ hi < 9223372036854775808) ∧ (-9223372036854775808 ≤ hj ∧ hj < 9223372036854775808) ∧ (-9223372036854775808 ≤ hs ∧ hs < 9223372036854775808) ∧ (-9223372036854775808 ≤ ht ∧ ht < 9223372036854775808) := by
  obtain ⟨cs, rfl, hsz⟩ := okWide_struct Tryd.underlying41 hval
  have hC : Tryd.prog.cellsOf 41 = 12 := by kernel_rfl
  obtain ⟨c0, c1, c2, c3, c4, c5, c6, c7, c8, c9, c10, c11, rfl⟩ := size_hdr (hsz.trans hC)
  obtain ⟨fuel, hf⟩ := h
  obtain ⟨xs, n, _, hx, _, hlen, hfld⟩ := DataW.trod_struct Tryd.underlying41 hf
  have e0 : DataW.trod enc Tryd.prog W 0 (fun _ => true) true n 3 ((([c0, c1, c2, c3, c4, c5, c6, c7, c8, c9, c10, c11] : List Value).drop 0).take (Tryd.prog.cellsOf 3)) = xs[0]? := hfld 0 _ rfl
  rw [show Tryd.prog.cellsOf 3 = 1 by kernel_rfl] at e0
  obtain ⟨n0, q0, y0, wf0⟩ := DataW.trod_int Tryd.underlying3 (x := xs[0]'(by rw [hlen]; decide)) (e0.trans (List.getElem?_eq_getElem _))
  have e1 : DataW.trod enc Tryd.prog W 0 (fun _ => true) true n 9 ((([c0, c1, c2, c3, c4, c5, c6, c7, c8, c9, c10, c11] : List Value).drop 1).take (Tryd.prog.cellsOf 9)) = xs[1]? := hfld 1 _ rfl
  rw [show Tryd.prog.cellsOf 9 = 1 by kernel_rfl] at e1
  obtain ⟨s1, q1, y1, wf1⟩ := DataW.trod_string Tryd.underlying9 (x := xs[1]'(by rw [hlen]; decide)) (e1.trans (List.getElem?_eq_getElem _))
  have e2 : DataW.trod enc Tryd.prog W 0 (fun _ => true) true n 9 ((([c0, c1, c2, c3, c4, c5, c6, c7, c8, c9, c10, c11] : List Value).drop 2).take (Tryd.prog.cellsOf 9)) = xs[2]? := hfld 2 _ rfl
  rw [show Tryd.prog.cellsOf 9 = 1 by kernel_rfl] at e2
  obtain ⟨s2, q2, y2, wf2⟩ := DataW.trod_string Tryd.underlying9 (x := xs[2]'(by rw [hlen]; decide)) (e2.trans (List.getElem?_eq_getElem _))
  have e3 : DataW.trod enc Tryd.prog W 0 (fun _ => true) true n 9 ((([c0, c1, c2, c3, c4, c5, c6, c7, c8, c9, c10, c11] : List Value).drop 3).take (Tryd.prog.cellsOf 9)) = xs[3]? := hfld 3 _ rfl
  rw [show Tryd.prog.cellsOf 9 = 1 by kernel_rfl] at e3
  obtain ⟨s3, q3, y3, wf3⟩ := DataW.trod_string Tryd.underlying9 (x := xs[3]'(by rw [hlen]; decide)) (e3.trans (List.getElem?_eq_getElem _))
  have e4 : DataW.trod enc Tryd.prog W 0 (fun _ => true) true n 9 ((([c0, c1, c2, c3, c4, c5, c6, c7, c8, c9, c10, c11] : List Value).drop 4).take (Tryd.prog.cellsOf 9)) = xs[4]? := hfld 4 _ rfl
  rw [show Tryd.prog.cellsOf 9 = 1 by kernel_rfl] at e4
  obtain ⟨s4, q4, y4, wf4⟩ := DataW.trod_string Tryd.underlying9 (x := xs[4]'(by rw [hlen]; decide)) (e4.trans (List.getElem?_eq_getElem _))
  have e5 : DataW.trod enc Tryd.prog W 0 (fun _ => true) true n 9 ((([c0, c1, c2, c3, c4, c5, c6, c7, c8, c9, c10, c11] : List Value).drop 5).take (Tryd.prog.cellsOf 9)) = xs[5]? := hfld 5 _ rfl
  rw [show Tryd.prog.cellsOf 9 = 1 by kernel_rfl] at e5
  obtain ⟨s5, q5, y5, wf5⟩ := DataW.trod_string Tryd.underlying9 (x := xs[5]'(by rw [hlen]; decide)) (e5.trans (List.getElem?_eq_getElem _))
  have e6 : DataW.trod enc Tryd.prog W 0 (fun _ => true) true n 5 ((([c0, c1, c2, c3, c4, c5, c6, c7, c8, c9, c10, c11] : List Value).drop 6).take (Tryd.prog.cellsOf 5)) = xs[6]? := hfld 6 _ rfl
  rw [show Tryd.prog.cellsOf 5 = 1 by kernel_rfl] at e6
  obtain ⟨n6, q6, y6, wf6⟩ := DataW.trod_int Tryd.underlying5 (x := xs[6]'(by rw [hlen]; decide)) (e6.trans (List.getElem?_eq_getElem _))
  have e7 : DataW.trod enc Tryd.prog W 0 (fun _ => true) true n 2 ((([c0, c1, c2, c3, c4, c5, c6, c7, c8, c9, c10, c11] : List Value).drop 7).take (Tryd.prog.cellsOf 2)) = xs[7]? := hfld 7 _ rfl
  rw [show Tryd.prog.cellsOf 2 = 1 by kernel_rfl] at e7
  obtain ⟨n7, q7, y7, wf7⟩ := DataW.trod_int Tryd.underlying2 (x := xs[7]'(by rw [hlen]; decide)) (e7.trans (List.getElem?_eq_getElem _))
  have e8 : DataW.trod enc Tryd.prog W 0 (fun _ => true) true n 2 ((([c0, c1, c2, c3, c4, c5, c6, c7, c8, c9, c10, c11] : List Value).drop 8).take (Tryd.prog.cellsOf 2)) = xs[8]? := hfld 8 _ rfl
  rw [show Tryd.prog.cellsOf 2 = 1 by kernel_rfl] at e8
  obtain ⟨n8, q8, y8, wf8⟩ := DataW.trod_int Tryd.underlying2 (x := xs[8]'(by rw [hlen]; decide)) (e8.trans (List.getElem?_eq_getElem _))
  have e9 : DataW.trod enc Tryd.prog W 0 (fun _ => true) true n 2 ((([c0, c1, c2, c3, c4, c5, c6, c7, c8, c9, c10, c11] : List Value).drop 9).take (Tryd.prog.cellsOf 2)) = xs[9]? := hfld 9 _ rfl
  rw [show Tryd.prog.cellsOf 2 = 1 by kernel_rfl] at e9
  obtain ⟨n9, q9, y9, wf9⟩ := DataW.trod_int Tryd.underlying2 (x := xs[9]'(by rw [hlen]; decide)) (e9.trans (List.getElem?_eq_getElem _))
  have e10 : DataW.trod enc Tryd.prog W 0 (fun _ => true) true n 2 ((([c0, c1, c2, c3, c4, c5, c6, c7, c8, c9, c10, c11] : List Value).drop 10).take (Tryd.prog.cellsOf 2)) = xs[10]? := hfld 10 _ rfl
  rw [show Tryd.prog.cellsOf 2 = 1 by kernel_rfl] at e10
  obtain ⟨n10, q10, y10, wf10⟩ := DataW.trod_int Tryd.underlying2 (x := xs[10]'(by rw [hlen]; decide)) (e10.trans (List.getElem?_eq_getElem _))
  have e11 : DataW.trod enc Tryd.prog W 0 (fun _ => true) true n 2 ((([c0, c1, c2, c3, c4, c5, c6, c7, c8, c9, c10, c11] : List Value).drop 11).take (Tryd.prog.cellsOf 2)) = xs[11]? := hfld 11 _ rfl
  rw [show Tryd.prog.cellsOf 2 = 1 by kernel_rfl] at e11
  obtain ⟨n11, q11, y11, wf11⟩ := DataW.trod_int Tryd.underlying2 (x := xs[11]'(by rw [hlen]; decide)) (e11.trans (List.getElem?_eq_getElem _))
  simp at q0 q1 q2 q3 q4 q5 q6 q7 q8 q9 q10 q11
  subst q0 q1 q2 q3 q4 q5 q6 q7 q8 q9 q10 q11
  obtain ⟨l1, rfl, r1⟩ := ba_list_hdr s1
  rw [r1] at y1
  obtain ⟨l2, rfl, r2⟩ := ba_list_hdr s2
  rw [r2] at y2
  obtain ⟨l3, rfl, r3⟩ := ba_list_hdr s3
  rw [r3] at y3
  obtain ⟨l4, rfl, r4⟩ := ba_list_hdr s4
  rw [r4] at y4
  obtain ⟨l5, rfl, r5⟩ := ba_list_hdr s5
  rw [r5] at y5
  obtain ⟨b6, hb6⟩ := u8_of wf6
  have hv6 : n6 = (b6.toNat : Int) := by unfold u8 at hb6; simpa using hb6
  subst hv6
  have hd : d = .agg (xs.map (·.1)) := by have h9 := congrArg Prod.fst hx; simpa using h9
  have hxl : xs.map (·.1) = [.lit (.int .i64 n0), .lit (.string l1), .lit (.string l2), .lit (.string l3), .lit (.string l4), .lit (.string l5), .lit (.int .u8 (b6.toNat : Int)), .lit (.int .i64 n7), .lit (.int .i64 n8), .lit (.int .i64 n9), .lit (.int .i64 n10), .lit (.int .i64 n11)] := by
    obtain ⟨x0, x1, x2, x3, x4, x5, x6, x7, x8, x9, x10, x11, rfl⟩ := list_hdr hlen
    (try
      simp only [List.getElem_cons_zero, List.getElem_cons_succ] at y0 y1 y2 y3 y4 y5 y6 y7 y8 y9 y10 y11)
    simp only [List.map_cons, List.map_nil, y0, y1, y2, y3, y4, y5, y6, y7, y8, y9, y10, y11]
  exact ⟨n0, n7, n8, n9, n10, n11, l1, l2, l3, l4, l5, b6, rfl, by rw [hd, hxl], i64_lt_hdr wf0, i64_lt_hdr wf7, i64_lt_hdr wf8, i64_lt_hdr wf9, i64_lt_hdr wf10, i64_lt_hdr wf11⟩

theorem ent_sized {H : Type} {k md ui gi mt sz : Int} {nm lk un gn : List UInt8} {ds : List (DataW H)} {ts : List TypeId} (h : (DataW.weightsEach Tryd.prog ts ds).all (· ≤ reachBytes) = true) (ht_ : ts[0]? = some 39) (hd : ds[0]? = some (.agg [.lit (.string nm), .lit (.string lk), .lit (.int .i64 k), .lit (.int .i64 md), .lit (.int .i64 ui), .lit (.int .i64 gi), .lit (.int .i64 mt), .lit (.int .i64 sz), .lit (.string un), .lit (.string gn)])) :
    nm.length ≤ reachBytes ∧ lk.length ≤ reachBytes ∧ un.length ≤ reachBytes ∧ gn.length ≤ reachBytes := by
  have key : ∀ n ∈ DataW.weights Tryd.prog 39 ((.agg [.lit (.string nm), .lit (.string lk), .lit (.int .i64 k), .lit (.int .i64 md), .lit (.int .i64 ui), .lit (.int .i64 gi), .lit (.int .i64 mt), .lit (.int .i64 sz), .lit (.string un), .lit (.string gn)]) : DataW H), n ≤ reachBytes := fun n hn => by
    have := List.all_eq_true.1 h _ (DataW.weights_mem_each ht_ hd n hn)
    simpa using this
  simp [DataW.weightsEach, DataW.weights, Tryd.underlying39] at key
  exact key

theorem hdr_sized {H : Type} {fm hm hi hj hs ht : Int} {hn hl hp hu hg : List UInt8} {ty : UInt8} {ds : List (DataW H)} {ts : List TypeId} (h : (DataW.weightsEach Tryd.prog ts ds).all (· ≤ reachBytes) = true) (ht_ : ts[1]? = some 41) (hd : ds[1]? = some (.agg [.lit (.int .i64 fm), .lit (.string hn), .lit (.string hl), .lit (.string hp), .lit (.string hu), .lit (.string hg), .lit (.int .u8 (ty.toNat : Int)), .lit (.int .i64 hm), .lit (.int .i64 hi), .lit (.int .i64 hj), .lit (.int .i64 hs), .lit (.int .i64 ht)])) :
    hn.length ≤ reachBytes ∧ hl.length ≤ reachBytes ∧ hp.length ≤ reachBytes ∧ hu.length ≤ reachBytes ∧ hg.length ≤ reachBytes := by
  have key : ∀ n ∈ DataW.weights Tryd.prog 41 ((.agg [.lit (.int .i64 fm), .lit (.string hn), .lit (.string hl), .lit (.string hp), .lit (.string hu), .lit (.string hg), .lit (.int .u8 (ty.toNat : Int)), .lit (.int .i64 hm), .lit (.int .i64 hi), .lit (.int .i64 hj), .lit (.int .i64 hs), .lit (.int .i64 ht)]) : DataW H), n ≤ reachBytes := fun n hn => by
    have := List.all_eq_true.1 h _ (DataW.weights_mem_each ht_ hd n hn)
    simpa using this
  simp [DataW.weightsEach, DataW.weights, Tryd.underlying41] at key
  exact key
end Go.Proofs.YtfpfdnckibaldaaDoor.R
