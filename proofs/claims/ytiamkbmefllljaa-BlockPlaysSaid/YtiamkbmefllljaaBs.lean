/- Bytes that came in, and how they are opened. No condition. -/
import Derived.Test.YtiamkbmefllljaaHolds
import Derived.Test.YtiamkbmefllljaaRows
import Derived.Deep.Slices
import Derived.OpenShut
import Derived.ChangeOld
set_option linter.unusedVariables false
namespace Go.Proofs.Ytiamkbmefllljaa.M
open Go.RowKit Go.ChangeShapes Go.WideShapes
section
variable {w : World} {w0 : Base} {fr l : List Blk}
theorem cell_lt {w : World} {a : Addr} {v : Value} (h : w.cell? a = some v) : a.block < w.heap.size := by
  unfold World.cell? at h
  rcases Nat.lt_or_ge a.block w.heap.size with hlt | hge
  · exact hlt
  · rw [Array.getElem?_eq_none hge] at h
    simp at h

/-- Bytes that came in. -/
theorem Bytes.came {x : Value} {bs : List UInt8} (h : Bytes w0.w x bs) (hM : Mem w0 w fr l) : Bytes w x bs := by
  cases h with
  | nil => exact .nil
  | at_ a bs c hc h => exact .at_ a bs c hc (fun j b hj => (hM.oldCell (a := a.add j) (cell_lt (h j b hj))).trans (h j b hj))

theorem u8_of {x : Int} (h : (Lit.int .u8 x).wf = true) : ∃ b : UInt8, Value.int .u8 x = u8 b := by
  have hr : 0 ≤ x ∧ x ≤ 255 := by
    have := h
    simp [Lit.wf] at this
    have h1 : IntKind.u8.min = 0 := rfl
    have h2 : IntKind.u8.max = 255 := rfl
    omega
  refine ⟨UInt8.ofNat x.toNat, ?_⟩
  unfold u8
  congr 1
  have h1 : x.toNat < 256 := by omega
  rw [UInt8.toNat_ofNat_of_lt' (by simpa [UInt8.size] using h1)]
  omega

theorem opened_bytes {H : Type} {enc : TypeId × Value → H} {W : World} {base : Nat} {v : Value} {d : DataW H} {p : List MemPlace} (hval : Value.okWide Try.prog W .any base 22 v) (h : DataW.Trod enc Try.prog W 0 (fun _ => true) true 22 v d p) :
    ∃ bs, Bytes W v bs := by
  obtain ⟨a, len, cap, rfl⟩ := okWide_slice Try.underlying22 hval
  obtain ⟨fuel, hf⟩ := h
  have hf' : DataW.trod enc Try.prog W 0 (fun _ => true) true fuel 22 [.slice a len cap] = some (d, p) := hf
  rcases Go.Deep.open_slice1 Try.underlying22 (by kernel_rfl) hf' with ⟨hn, _⟩ | ⟨ad, len', cap', m, n, V, D, Pl, hcs, _, hle, _, hm, _, hel⟩
  · simp at hn
    obtain ⟨rfl, rfl, rfl⟩ := hn
    exact ⟨[], .nil⟩
  simp only [List.cons.injEq, Value.slice.injEq, and_true] at hcs
  obtain ⟨rfl, rfl, rfl⟩ := hcs
  rw [if_pos rfl] at hm
  subst hm
  have each : ∀ i, i < len → ∃ b : UInt8, W.cell? (ad.add i) = some (u8 b) := by
    intro i hi
    obtain ⟨h1, h2⟩ := hel i (by omega)
    obtain ⟨x, hx, _, hw⟩ := DataW.trod_int Try.underlying5 h2
    simp at hx
    obtain ⟨b, hb⟩ := u8_of hw
    exact ⟨b, by rw [h1, hx, hb]⟩
  obtain ⟨f, hf2⟩ := Go.Deep.choose_lt each
  have hl : ((List.range len).map f).length = len := by rw [List.length_map, List.length_range]
  refine ⟨(List.range len).map f, ?_⟩
  have := Bytes.at_ (w := W) ad ((List.range len).map f) m (by rw [hl]; exact hle) (fun j b hj => by
    rw [List.getElem?_map] at hj
    by_cases hjl : j < len
    · rw [List.getElem?_range hjl] at hj
      simp only [Option.map_some, Option.some.injEq] at hj
      rw [hf2 j hjl, hj]
    · rw [List.getElem?_eq_none (by simpa using hjl)] at hj
      cases hj)
  rw [hl] at this
  exact this
end
end Go.Proofs.Ytiamkbmefllljaa.M
