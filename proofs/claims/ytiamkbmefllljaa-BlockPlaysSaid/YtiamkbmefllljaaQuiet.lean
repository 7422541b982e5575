/- Rules for regions that draw their order while nothing known turns: strings of bytes, parts of slices. No condition. -/
import Derived.Test.YtiamkbmefllljaaBs
set_option linter.unusedVariables false
namespace Go.Proofs.Ytiamkbmefllljaa.M
open Go.RowKit
section
variable {P : Program} {a : Act} {w : World} {w0 : Base} {fr bl r : List Blk}

/-- A string of bytes. -/
theorem q_bs {o : Oper} {K : Act → Prop} {src dst e : TypeId} {x : Operand} {bs : List UInt8} (hop : o.op = .convert src dst x)
    (hs : P.underlying src = some (.slice e)) (he : P.underlying e = some (.int .u8)) (hd : P.underlying dst = some .string) (hB : ∀ w', Mem w0 w' fr bl → Bytes w' (a.eval x) bs)
    (hk : K (a.put o.dst (.string ⟨bs.toArray⟩))) : o.quiet P a (fun w' => ∃ s : MW w0 fr bl, w' = s.w) K := by
  refine ⟨_, fun w' ⟨s, hs'⟩ => ?_, hk⟩
  subst hs'
  have hrun : (convert src dst (a.eval x)).run P s.w = .ok (.string ⟨bs.toArray⟩) s.w := by
    have hB1 := hB s.w s.h
    generalize a.eval x = v at hB1
    cases hB1 with
    | nil =>
      rw [run_convert_bytes_string s.w src dst e none 0 0 hs he hd]
      rfl
    | at_ ad bs c _ h => exact run_convert_bytes_back s.w src dst e ad c bs hs he hd (fun j hj => h j bs[j] (by simp [hj]))
  unfold Oper.quietAt execOp
  simp only [hop, Sem.run_bind, hrun, Result.andThen_ok]
  exact ⟨rfl, rfl⟩

/-- Of a slice the part up to h. -/
theorem q_sl_h {o : Oper} {K : Act → Prop} {t e : TypeId} {x hi : Operand} {base : Option Addr} {len cap : Nat} {kh : IntKind} {H : Int} (n : Nat) (hop : o.op = .slice t x none (some hi) none)
    (hu : P.underlying t = some (.slice e)) (hs : ((P.info? e).map (·.size)).isSome = true) (hx : a.eval x = .slice base len cap) (hhi : a.eval hi = .int kh H)
    (hH : H = (n : Int)) (h2 : n ≤ cap) (hk : K (a.put o.dst (.slice base n cap))) : o.quiet P a (fun w' => ∃ s : MW w0 fr bl, w' = s.w) K := by
  refine ⟨_, fun w' ⟨s, hs'⟩ => ?_, hk⟩
  subst hs'
  cases hq : P.info? e with
  | none => simp [hq] at hs
  | some i =>
    have hrun : (Instr.sliceAt t (.slice base len cap) none (some (.int kh H)) none).run P s.w = .ok (.slice base n cap) s.w := by
      simp [Instr.sliceAt, Instr.slice, run_underlying hu, Instr.sliceBounds, run_bound s.w kh H n cap _ hH h2, sizeOf, typeInfo, hq]
      intro _
      cases base <;> simp [Addr.add]
    unfold Oper.quietAt execOp
    simp only [hop, hx, hhi, Option.map_some, Option.map_none, Sem.run_bind, hrun, Result.andThen_ok]
    exact ⟨rfl, rfl⟩

/-- Of a slice the part from l to h. -/
theorem q_sl_lh {o : Oper} {K : Act → Prop} {t e : TypeId} {x lo hi : Operand} {base : Option Addr} {len cap size : Nat} {kl kh : IntKind} {L H : Int} (m n : Nat) (hop : o.op = .slice t x (some lo) (some hi) none)
    (hu : P.underlying t = some (.slice e)) (hs : (P.info? e).map (·.size) = some size) (hx : a.eval x = .slice base len cap) (hlo : a.eval lo = .int kl L) (hhi : a.eval hi = .int kh H)
    (hL : L = (m : Int)) (hH : H = (n : Int)) (h1 : m ≤ n) (h2 : n ≤ cap) (hk : K (a.put o.dst (.slice (cutAt base cap m size) (n - m) (cap - m)))) : o.quiet P a (fun w' => ∃ s : MW w0 fr bl, w' = s.w) K := by
  refine ⟨_, fun w' ⟨s, hs'⟩ => ?_, hk⟩
  subst hs'
  cases hq : P.info? e with
  | none => simp [hq] at hs
  | some i =>
    have hsz : i.size = size := by simpa [hq] using hs
    have hrun : (Instr.sliceAt t (.slice base len cap) (some (.int kl L)) (some (.int kh H)) none).run P s.w = .ok (.slice (cutAt base cap m size) (n - m) (cap - m)) s.w := by
      simp [Instr.sliceAt, Instr.slice, run_underlying hu, Instr.sliceBounds, run_bound s.w kh H n cap _ hH h2, run_bound s.w kl L m n _ hL h1, sizeOf, typeInfo, hq, hsz, cutAt]
    unfold Oper.quietAt execOp
    simp only [hop, hx, hlo, hhi, Option.map_some, Option.map_none, Sem.run_bind, hrun, Result.andThen_ok]
    exact ⟨rfl, rfl⟩

theorem Bytes.cap_le {b : Option Addr} {n c : Nat} {bs : List UInt8} (h : Bytes w (.slice b n c) bs) : n ≤ c := by
  generalize hv : Value.slice b n c = v at h
  cases h with
  | nil =>
    simp only [Value.slice.injEq] at hv
    omega
  | at_ ad bs c' hc _ =>
    simp only [Value.slice.injEq] at hv
    omega

theorem Bytes.len_eq {b : Option Addr} {n c : Nat} {bs : List UInt8} (h : Bytes w (.slice b n c) bs) : bs.length = n := by
  generalize hv : Value.slice b n c = v at h
  cases h with
  | nil =>
    simp only [Value.slice.injEq] at hv
    exact hv.2.1.symm
  | at_ ad bs c' hc _ =>
    simp only [Value.slice.injEq] at hv
    exact hv.2.1.symm

theorem Bytes.upto {b : Option Addr} {len c n : Nat} {bs : List UInt8} (h : Bytes w (.slice b len c) bs) (hn : n ≤ len) : Bytes w (.slice b n c) (bs.take n) := by
  generalize hv : Value.slice b len c = v at h
  cases h with
  | nil =>
    simp only [Value.slice.injEq] at hv
    obtain ⟨rfl, rfl, rfl⟩ := hv
    obtain rfl : n = 0 := by omega
    exact .nil
  | at_ ad bs c' hc hb =>
    simp only [Value.slice.injEq] at hv
    obtain ⟨rfl, rfl, rfl⟩ := hv
    have hl : (bs.take n).length = n := by simp; omega
    have := Bytes.at_ (w := w) ad (bs.take n) c (by omega) (fun j x hj => by
      have hlt : j < n := by
        have := (List.getElem?_eq_some_iff.1 hj).1
        omega
      rw [List.getElem?_take_of_lt hlt] at hj
      exact hb j x hj)
    rw [hl] at this
    exact this

theorem Bytes.from_ {b : Option Addr} {len c m : Nat} {bs : List UInt8} (h : Bytes w (.slice b len c) bs) (hm : m ≤ len) : Bytes w (.slice (cutAt b c m 1) (len - m) (c - m)) (bs.drop m) := by
  have := h.cut (m := m) (n := len) hm (Nat.le_refl _)
  rwa [← h.len_eq, List.take_length, h.len_eq] at this

theorem put_eq {D : Nat → UInt8} {o : Nat} {l : List UInt8} {j : Nat} : put D o l j = if o ≤ j ∧ j < o + l.length then l.getD (j - o) 0 else D j := by
  unfold put
  by_cases h1 : o ≤ j
  · rw [if_pos h1]
    by_cases h2 : j < o + l.length
    · rw [if_pos ⟨h1, h2⟩, List.getD_eq_getElem?_getD, List.getElem?_eq_getElem (by omega)]
      rfl
    · rw [if_neg (fun h => h2 h.2), List.getElem?_eq_none (by omega)]
      rfl
  · rw [if_neg h1, if_neg (fun h => h1 h.1)]

theorem getD_drop (l : List UInt8) (m i : Nat) : (l.drop m).getD i 0 = l.getD (m + i) 0 := by
  rw [List.getD_eq_getElem?_getD, List.getD_eq_getElem?_getD, List.getElem?_drop]
theorem getD_take {l : List UInt8} {m i : Nat} (h : i < m) : (l.take m).getD i 0 = l.getD i 0 := by
  rw [List.getD_eq_getElem?_getD, List.getD_eq_getElem?_getD, List.getElem?_take_of_lt h]
theorem getD_zeros (n i : Nat) : (List.replicate n (0 : UInt8)).getD i 0 = 0 := by
  rw [List.getD_eq_getElem?_getD]
  by_cases h : i < n
  · simp [h]
  · rw [List.getElem?_eq_none (by simpa using h)]; rfl
theorem getD_out {l : List UInt8} {i : Nat} (h : l.length ≤ i) : l.getD i 0 = 0 := by
  rw [List.getD_eq_getElem?_getD, List.getElem?_eq_none h]; rfl
end
end Go.Proofs.Ytiamkbmefllljaa.M
