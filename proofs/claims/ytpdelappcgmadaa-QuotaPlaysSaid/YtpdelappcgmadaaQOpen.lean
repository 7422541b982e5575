/- A script of operations that came in, opened: its operations lie in memory. No condition. -/
import Derived.Test.YtpdelappcgmadaaQPlays
import Derived.Test.YtpdelappcgmadaaRows
import Derived.Deep.Slices
import Derived.OpenShut
import Derived.ChangeOld
namespace Go.Proofs.Ytpdelappcgmadaa.QPlays
open Go.ChangeShapes Go.WideShapes Go.RowKit

theorem block_lt {w : World} {a : Addr} {v : Value} (h : w.cell? a = some v) : a.block < w.heap.size := by
  unfold World.cell? at h
  rcases Nat.lt_or_ge a.block w.heap.size with hlt | hge
  · exact hlt
  · rw [Array.getElem?_eq_none hge] at h
    simp at h

theorem five {cs : List Value} (h : cs.length = 5) : ∃ c0 c1 c2 c3 c4, cs = [c0, c1, c2, c3, c4] := by
  match cs, h with
  | [c0, c1, c2, c3, c4], _ => exact ⟨_, _, _, _, _, rfl⟩

theorem opened_op {H : Type} {enc : TypeId × Value → H} {W : World} {n : Nat} {cs : List Value} {x : DataW H × List MemPlace} (hl : cs.length = 5) (h : DataW.trod enc Try.prog W 0 (fun _ => true) true n 39 cs = some x) :
    ∃ o : Oq, cs = o.cells := by
  obtain ⟨c0, c1, c2, c3, c4, rfl⟩ := five hl
  obtain ⟨xs, m, _, hx, _, hlen, hfld⟩ := DataW.trod_struct Try.underlying39 h
  have e0 : DataW.trod enc Try.prog W 0 (fun _ => true) true m 3 ((([c0, c1, c2, c3, c4] : List Value).drop 0).take (Try.prog.cellsOf 3)) = xs[0]? := hfld 0 _ rfl
  rw [show Try.prog.cellsOf 3 = 1 by kernel_rfl] at e0
  obtain ⟨z0, q0, _, _⟩ := DataW.trod_int Try.underlying3 (x := xs[0]'(by rw [hlen]; decide)) (e0.trans (List.getElem?_eq_getElem _))
  have e1 : DataW.trod enc Try.prog W 0 (fun _ => true) true m 2 ((([c0, c1, c2, c3, c4] : List Value).drop 1).take (Try.prog.cellsOf 2)) = xs[1]? := hfld 1 _ rfl
  rw [show Try.prog.cellsOf 2 = 1 by kernel_rfl] at e1
  obtain ⟨z1, q1, _, _⟩ := DataW.trod_int Try.underlying2 (x := xs[1]'(by rw [hlen]; decide)) (e1.trans (List.getElem?_eq_getElem _))
  have e2 : DataW.trod enc Try.prog W 0 (fun _ => true) true m 2 ((([c0, c1, c2, c3, c4] : List Value).drop 2).take (Try.prog.cellsOf 2)) = xs[2]? := hfld 2 _ rfl
  rw [show Try.prog.cellsOf 2 = 1 by kernel_rfl] at e2
  obtain ⟨z2, q2, _, _⟩ := DataW.trod_int Try.underlying2 (x := xs[2]'(by rw [hlen]; decide)) (e2.trans (List.getElem?_eq_getElem _))
  have e3 : DataW.trod enc Try.prog W 0 (fun _ => true) true m 3 ((([c0, c1, c2, c3, c4] : List Value).drop 3).take (Try.prog.cellsOf 3)) = xs[3]? := hfld 3 _ rfl
  rw [show Try.prog.cellsOf 3 = 1 by kernel_rfl] at e3
  obtain ⟨z3, q3, _, _⟩ := DataW.trod_int Try.underlying3 (x := xs[3]'(by rw [hlen]; decide)) (e3.trans (List.getElem?_eq_getElem _))
  have e4 : DataW.trod enc Try.prog W 0 (fun _ => true) true m 3 ((([c0, c1, c2, c3, c4] : List Value).drop 4).take (Try.prog.cellsOf 3)) = xs[4]? := hfld 4 _ rfl
  rw [show Try.prog.cellsOf 3 = 1 by kernel_rfl] at e4
  obtain ⟨z4, q4, _, _⟩ := DataW.trod_int Try.underlying3 (x := xs[4]'(by rw [hlen]; decide)) (e4.trans (List.getElem?_eq_getElem _))
  simp at q0 q1 q2 q3 q4
  subst q0 q1 q2 q3 q4
  exact ⟨⟨z0, z1, z2, z3, z4⟩, rfl⟩

instance : Inhabited Oq := ⟨⟨0, 0, 0, 0, 0⟩⟩

theorem opened {H : Type} {enc : TypeId × Value → H} {W : World} {base : Nat} {v : Value} {d : DataW H} {p : List MemPlace} (hval : Value.okWide Try.prog W .any base 30 v) (h : DataW.Trod enc Try.prog W 0 (fun _ => true) true 30 v d p) :
    (∃ b off cap os, v = .slice (some ⟨b, off, none⟩) (List.length os) cap ∧ Lies W b off os) ∨ ∃ base cap, v = .slice base 0 cap := by
  obtain ⟨a, len, cap, rfl⟩ := okWide_slice Try.underlying30 hval
  by_cases h0 : len = 0
  · subst h0
    exact .inr ⟨a, cap, rfl⟩
  obtain ⟨fuel, hf⟩ := h
  have hf' : DataW.trod enc Try.prog W 0 (fun _ => true) true fuel 30 [.slice a len cap] = some (d, p) := hf
  rcases Go.Deep.open_slice Try.underlying30 hf' with ⟨hn, _⟩ | ⟨ad, len', cap', m, n, D, Pl, hcs, _, hle, _, hm, _, hel⟩
  · simp at hn
    exact absurd hn.2.1 h0
  simp only [List.cons.injEq, Value.slice.injEq, and_true] at hcs
  obtain ⟨rfl, rfl, rfl⟩ := hcs
  rw [if_pos rfl] at hm
  subst hm
  have hC : Try.prog.cellsOf 39 = 5 := by kernel_rfl
  have each : ∀ i, i < len → ∃ o : Oq, ∀ j v, o.cells[j]? = some v → W.cell? ((ad.add (i * 5)).add j) = some v := by
    intro i hi
    obtain ⟨cs', h1, h2⟩ := hel i (by omega)
    rw [hC] at h1
    obtain ⟨_, hl, hcell⟩ := World.cells?_some h1
    obtain ⟨o, rfl⟩ := opened_op hl h2
    refine ⟨o, fun j v hj => ?_⟩
    have hj5 : j < 5 := by
      have := (List.getElem?_eq_some_iff.1 hj).1
      exact this
    rw [hcell j hj5]
    exact hj
  obtain ⟨f, hf2⟩ := Go.Deep.choose_lt each
  have h00 := hf2 0 (by omega) 0 _ rfl
  have hspot : ad.spot = none := by
    have := World.cell?_spot h00
    simpa [Addr.add] using this
  obtain ⟨b, off, spot⟩ := ad
  simp only at hspot
  subst hspot
  refine .inl ⟨b, off, _, (List.range len).map f, by rw [List.length_map, List.length_range], ?_, ?_⟩
  · have := block_lt h00
    simpa [Addr.add] using this
  · intro k hk j v hj
    have hk' : k < len := by simpa using hk
    have := hf2 k hk' j v (by simpa using hj)
    rw [Addr.add_lit, Addr.add_lit] at this
    exact this
end Go.Proofs.Ytpdelappcgmadaa.QPlays
