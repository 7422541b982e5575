/- The sum of a header, whether it bears it; a text up to its first byte 0; whether a text fits. No condition. -/
import Derived.Test.YtfpfdnckibaldaaOp
import Derived.Test.YtfpfdnckibaldaaShelf
import Derived.Deep.CutBlock
set_option linter.unusedSimpArgs false
set_option linter.unusedVariables false
namespace Go.Proofs.Ytfpfdnckibaldaa.H
open Go.RowKit Go.Proofs.Ytfpfdnckibaldaa.M Go.Proofs.Ytfpfdnckibaldaa.O


section
variable {P : Program} {ops : Array Oper} {Q : Exit → Act → World → Prop} {a : Act} {w : World} {w0 : Base} {rest : List Oper} {o : Oper} {fr l r : List Blk} {R : Act → World → Prop}
/-- copy of a string into a known row. -/
theorem cp_str {t tx e' : TypeId} {d x : Operand} {g q dl dc : Nat} {cs : Array Value} {e : TypeId} {bs : List UInt8}
    (hop : o.op = .call { callee := .builtin .copy, args := #[d, x], argTypes := #[t, tx] }) (hw : Region.wanted o (yielded ops a.tmps) = true) (hM : Mem w0 w fr l)
    (hu : P.underlying t = some (.slice e')) (hsz : (P.info? e').map (·.size) = some 1)
    (hd : a.eval d = .slice (some ⟨g, q, none⟩) dl dc) (hp : Pick l ⟨g, cs, e, (0, 0)⟩ r) (hx : a.eval x = .string ⟨bs.toArray⟩) (hfit : bs.length ≤ dl) (hq : q + bs.length ≤ cs.size)
    (h : ∀ w', Mem w0 w' fr (⟨g, lay cs q (bs.map u8), e, (0, 0)⟩ :: r) → R (a.put o.dst (goInt bs.length)) w') : WPK P ops Q R o a w :=
  wanted hw fun K hK => by
    have hst := run_storeCells_at P g q e (bs.map u8) 0 cs w (hM.get hp) (by simpa using hq) (fun v hv => by obtain ⟨b, _, rfl⟩ := List.mem_map.1 hv; rfl)
    have hsb : (ByteArray.mk bs.toArray).size = bs.length := rfl
    have hex : ((ByteArray.mk bs.toArray).extract 0 bs.length).data.map (fun b => Value.int .u8 (b.toNat : Int)) = (bs.map u8).toArray := by
      rw [ByteArray.data_extract]
      apply Array.ext'
      simp [u8]
    cases hq' : P.info? e' with
    | none => simp [hq'] at hsz
    | some i =>
      have hi : i.size = 1 := by simpa [hq'] using hsz
      have hrun : (Builtin.copy_ #[t, tx] o.type #[.slice (some ⟨g, q, none⟩) dl dc, .string ⟨bs.toArray⟩]).run P w = .ok (goInt bs.length) (w.setRow g (lay cs q (bs.map u8))) := by
        have hmp : List.take bs.length (List.map (fun b : UInt8 => Value.int IntKind.u8 (b.toNat : Int)) bs) = bs.map u8 := List.take_of_length_le (by simp)
        simp only [Nat.add_zero] at hst
        simp [Builtin.copy_, run_underlying hu, Builtin.lenOf, Builtin.firstCells, sizeOf, typeInfo, hq', hi, hsb, Nat.min_eq_left hfit, hmp, hst, lay]
      unfold Oper.wp
      simp only [execOp, hop, resolve, Sem.run_bind, Sem.run_pure, Result.andThen_ok, invoke, builtin, List.map_toArray, List.map_cons, List.map_nil, hd, hx, hrun]
      exact hK _ _ (h _ (hM.setRow hp _))
end

/-- The sum of the first i bytes. -/
def ps (D : Nat → UInt8) : Nat → Nat
  | 0 => 0
  | i + 1 => ps D i + if 148 ≤ i ∧ i < 156 then 32 else (D i).toNat
theorem ps_le (D : Nat → UInt8) (n : Nat) : ps D n ≤ 255 * n := by
  induction n with
  | zero => exact Nat.le_refl _
  | succ n ih =>
    have := (D n).toNat_lt
    simp only [ps]
    split <;> omega
theorem ps_congr {D D' : Nat → UInt8} {n : Nat} (h : ∀ i, i < n → i < 148 ∨ 156 ≤ i → D i = D' i) : ps D n = ps D' n := by
  induction n with
  | zero => rfl
  | succ n ih =>
    simp only [ps]
    rw [ih (fun i hi => h i (by omega))]
    by_cases h1 : 148 ≤ n ∧ n < 156
    · rw [if_pos h1, if_pos h1]
    · rw [if_neg h1, if_neg h1, h n (by omega) (by omega)]

theorem pl_ (w : World) (b : Nat) (hb : b < 256) : Calls Try.prog 20 #[.int .u8 (b : Int)] w fun e w' => e = .returned (.int .i64 (b : Int)) ∧ w = w' := by
  go_enter Try.func20, Try.ntmps20
  go_wp2
  go_ret
  exact ⟨rfl, rfl⟩

set_option maxHeartbeats 2000000 in
theorem each_ (w : World) (g q n c : Nat) (D : Nat → UInt8) (hA : At w g q (seg D 0 n)) (hn : n ≤ 1000000) : Calls Try.prog 19 #[.slice (some ⟨g, q, none⟩) n c, .func (.func 20) #[] #[]] w fun e w' => e = .returned (.int .i64 (ps D n : Nat)) ∧ w = w' := by
  have hni : (n : Int) ≤ 1000000 := by omega
  go_enter Try.func19, Try.ntmps19
  go_wp2
  go_loopw [5, 10] (fun x5 x10 wr => ∃ i : Nat, i ≤ n ∧ x5 = .int .i64 (ps D i : Nat) ∧ x10 = .int .i64 i ∧ w = wr) (fun _ x10 _ => n - (intOf x10).toNat)
  case atStart => exact ⟨0, Nat.zero_le _, by go_num, by go_num, rfl⟩
  case round =>
    obtain ⟨i, hi, rfl, rfl, rfl⟩ := hrel
    by_cases hlt : i < n
    · have hci := hA.cell (j := i) (by rw [seg_len]; exact hlt)
      have hsg : (seg D 0 n)[i]'(by rw [seg_len]; exact hlt) = D i := by
        have h1 := seg_get (D := D) (o := 0) hlt
        rw [List.getElem?_eq_getElem (by rw [seg_len]; exact hlt), Nat.zero_add] at h1
        exact Option.some.inj h1
      rw [hsg] at hci
      have hlti : (i : Int) < (n : Int) := by omega
      have hps := ps_le D i
      obtain ⟨p, hp⟩ : ∃ p, Hid (ps D i = p) := ⟨_, hd_ rfl⟩
      have hstep : Hid (ps D (i + 1) = p + if 148 ≤ i ∧ i < 156 then 32 else (D i).toNat) := hd_ (by rw [← hp.out]; rfl)
      rw [hp.out] at hps ⊢
      have hb := (D i).toNat_lt
      generalize (D i).toNat = b at hci hb hstep
      have hwb : IntKind.i64.wrap ((p : Int) + (b : Int)) = (p : Int) + (b : Int) := IntWalk.i64_in _ (by omega)
      have hwc : IntKind.i64.wrap ((p : Int) + 32) = (p : Int) + 32 := IntWalk.i64_in _ (by omega)
      clear hsg
      by_cases h148 : 148 ≤ i
      · have f1 : decide ((i : Int) ≥ 148) = true := decide_eq_true (by omega)
        by_cases h156 : i < 156
        · have f2 : decide ((i : Int) < 156) = true := decide_eq_true (by omega)
          have hpl : Calls Try.prog 20 #[.int .u8 32] w fun e w' => e = .returned (.int .i64 32) ∧ w = w' := pl_ w 32 (by omega)
          go_wp2_with (first | ((with_reducible refine wpl ?_); apply ld_cell; rfl; (first | exact want_none rfl | exact want_some rfl rfl rfl rfl); rfl; (first | exact hci); exact one5; simp only [Act.put, List.setIfInBounds_toArray, List.set_cons_zero, List.set_cons_succ]) | (go_at_call 20; (with_reducible refine hpl.mono ?_); rintro e w3 ⟨rfl, rfl⟩))
          go_roundw
          case rel => exact ⟨i + 1, by omega, by have h1 := hstep.out; rw [if_pos ⟨h148, h156⟩] at h1; rw [h1]; go_num, by go_num, trivial⟩
          case measure => simp [intOf] <;> omega
        · have f2 : decide ((i : Int) < 156) = false := decide_eq_false (by omega)
          go_wp2_with (first | ((with_reducible refine wpl ?_); apply ld_cell; rfl; (first | exact want_none rfl | exact want_some rfl rfl rfl rfl); rfl; (first | exact hci); exact one5; simp only [Act.put, List.setIfInBounds_toArray, List.set_cons_zero, List.set_cons_succ]) | (go_at_call 20; (with_reducible refine (pl_ _ b hb).mono ?_); rintro e w3 ⟨rfl, rfl⟩))
          go_roundw
          case rel => exact ⟨i + 1, by omega, by have h1 := hstep.out; rw [if_neg (fun h => h156 h.2)] at h1; rw [h1]; go_num, by go_num, trivial⟩
          case measure => simp [intOf] <;> omega
      · have f1 : decide ((i : Int) ≥ 148) = false := decide_eq_false (by omega)
        go_wp2_with (first | ((with_reducible refine wpl ?_); apply ld_cell; rfl; (first | exact want_none rfl | exact want_some rfl rfl rfl rfl); rfl; (first | exact hci); exact one5; simp only [Act.put, List.setIfInBounds_toArray, List.set_cons_zero, List.set_cons_succ]) | (go_at_call 20; (with_reducible refine (pl_ _ b hb).mono ?_); rintro e w3 ⟨rfl, rfl⟩))
        go_roundw
        case rel => exact ⟨i + 1, by omega, by have h1 := hstep.out; rw [if_neg (fun h => h148 h.1)] at h1; rw [h1]; go_num, by go_num, trivial⟩
        case measure => simp [intOf] <;> omega
    · obtain rfl : i = n := by omega
      go_wp2
      go_ret
      exact ⟨rfl, rfl⟩

theorem plain_ (w : World) (g q n c : Nat) (D : Nat → UInt8) (hA : At w g q (seg D 0 n)) (hn : n ≤ 1000000) : Calls Try.prog 13 #[.slice (some ⟨g, q, none⟩) n c] w fun e w' => e = .returned (.int .i64 (ps D n : Nat)) ∧ w = w' := by
  go_enter Try.func13, Try.ntmps13
  go_wp2_with (first | (go_at_call 19; (with_reducible refine (each_ w g q n c D hA hn).mono ?_); rintro e w3 ⟨rfl, rfl⟩))
  go_ret
  exact ⟨rfl, rfl⟩
end Go.Proofs.Ytfpfdnckibaldaa.H
