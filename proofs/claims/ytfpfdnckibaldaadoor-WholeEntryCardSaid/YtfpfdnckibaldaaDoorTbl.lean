/- Slices of elements of k cells that grow, as they lie in a memory of known blocks. No condition. -/
import Derived.Test.YtfpfdnckibaldaaDoorReg
set_option linter.unusedVariables false
namespace Go.Proofs.YtfpfdnckibaldaaDoor.M
open Go.RowKit

theorem hd_ {p : Prop} (h : p) : Hid p := h

/-- A slice of elements of k cells: none yet, or one that begins a known row. F: all its cells. -/
inductive Tbl (t : TypeId) (k : Nat) : Value → List Value → List Blk → Prop
  | nil : Tbl t k (.slice none 0 0) [] []
  | row (g c n : Nat) (cells : Array Value) (F : List Value) (hn : Hid (F.length = n * k)) (hc : Hid (cells.size = c * k)) (hl : n ≤ c) (h : Hid (∀ j, j < n * k → cells[j]? = F[j]?)) : Tbl t k (.slice (some ⟨g, 0, none⟩) n c) F [⟨g, cells, t, (0, 0)⟩]

theorem Pick.mid (A : List Blk) (b : Blk) (r : List Blk) : Pick (A ++ b :: r) b (A ++ r) := by
  induction A with
  | nil => exact .head _ _
  | cons c A ih => exact .tail ih

theorem Tbl.slice {t : TypeId} {k : Nat} {v : Value} {F : List Value} {R : List Blk} (h : Tbl t k v F R) : ∃ b n c, v = .slice b n c ∧ F.length = n * k := by
  cases h with
  | nil => exact ⟨_, _, _, rfl, by simp⟩
  | row g c n cells F hn => exact ⟨_, _, _, rfl, hn.out⟩

theorem Tbl.inv {t : TypeId} {k : Nat} {b : Option Addr} {n c : Nat} {F : List Value} {R : List Blk} (h : Tbl t k (.slice b n c) F R) (h0 : 0 < n) :
    ∃ g cells, b = some ⟨g, 0, none⟩ ∧ R = [⟨g, cells, t, (0, 0)⟩] ∧ Hid (cells.size = c * k) ∧ n ≤ c ∧ Hid (∀ j, j < n * k → cells[j]? = F[j]?) := by
  generalize hv : Value.slice b n c = v at h
  cases h with
  | nil =>
    simp only [Value.slice.injEq] at hv
    omega
  | row g c n cells F hn hc hl h =>
    simp only [Value.slice.injEq] at hv
    obtain ⟨rfl, rfl, rfl⟩ := hv
    exact ⟨g, cells, rfl, rfl, hc, hl, h⟩

section
variable {P : Program} {ops : Array Oper} {Q : Exit → Act → World → Prop} {a : Act} {w : World} {w0 : Base} {o : Oper} {fr : List Blk} {R : Act → World → Prop}

/-- A slice literal of one element of k cells. -/
theorem al_elem {t e : TypeId} {size bytes : Nat} {z : Value} {x : Operand} {l : List Blk} {v : Value} {cells : Array Value} (hop : o.op = .buildSlice t 1 #[(0, x)]) (hw : Region.wanted o (yielded ops a.tmps) = true) (hM : Mem w0 w fr l)
    (ht : SlTy P t e size bytes z) (hsmall : ¬ 1 * size > 2 ^ 24) (hx : a.eval x = v)
    (hf : Instr.fill (fun i => some (i * size, size)) ((Array.range (1 * size)).map ((if 1 * size = 0 then #[] else z.cells)[· % (if 1 * size = 0 then #[] else z.cells).size]!)) [(0, v)] = some cells)
    (h : ∀ g w', Mem w0 w' fr (⟨g, cells, e, (0, 0)⟩ :: l) → R (a.put o.dst (.slice (some ⟨g, 0, none⟩) 1 1)) w') : WPK P ops Q R o a w :=
  al_slice hop hw hM ht hsmall (by simpa [hx] using hf) h

/-- An element is put behind. -/
theorem tb_app {ts t : TypeId} {k bytes : Nat} {z v : Value} {sx x : Operand} {gq : Nat} {es F : List Value} {Rm A lst : List Blk}
    (hop : o.op = .call { callee := .builtin .append, args := #[sx, x], argTypes := #[ts, ts] }) (hw : Region.wanted o (yielded ops a.tmps) = true) (ht : SlTy P ts t k bytes z) (hzs : z.cells.size = k)
    (hM : Mem w0 w fr (⟨gq, es.toArray, t, (0, 0)⟩ :: lst)) (hA : lst = A ++ Rm) (hT : Tbl t k v F Rm) (hs : a.eval sx = v) (hx : a.eval x = .slice (some ⟨gq, 0, none⟩) 1 1) (hes : es.length = k) (h1 : allOne es = true)
    (hk : 0 < k) (hb : (F.length + k) * bytes ≤ 140737488355328) (hF : F.length + k ≤ 4611686018427387904)
    (h : ∀ (g c n : Nat) (cells : Array Value) (w' : World), Hid (n * k = F.length + k) → Tbl t k (.slice (some ⟨g, 0, none⟩) n c) (F ++ es) [⟨g, cells, t, (0, 0)⟩] → Mem w0 w' fr (A ++ [⟨g, cells, t, (0, 0)⟩]) → R (a.put o.dst (.slice (some ⟨g, 0, none⟩) n c)) w') : WPK P ops Q R o a w := by
  subst hA
  have hsrc : Src P k ts (a.eval x) 1 es w := by
    rw [hx]
    refine Src.ofSlice w ht.u ⟨gq, 0, none⟩ 1 1 es (by omega) (fun j u hu => ?_) (fun u hu => allOne_iff.1 h1 u hu)
    rw [Addr.add_lit, hM.cell (.head _ _), Nat.zero_add]
    simpa using hu
  have hby : ∀ n : Nat, n * k = F.length → (n + 1) * bytes ≤ 140737488355328 ∧ n + 1 ≤ 4611686018427387904 := fun n hn => by
    have h2 : n + 1 ≤ F.length + k := by
      have : n ≤ n * k := Nat.le_mul_of_pos_right _ hk
      omega
    exact ⟨Nat.le_trans (Nat.mul_le_mul_right _ h2) hb, by omega⟩
  cases hT with
  | nil =>
    refine ap_nil hop hw hM ht hzs hs hsrc (by have := (hby 0 (by simp)).1; omega) (by omega) (by omega) (fun g' cap' cs' w' hM' hon hcap => ?_)
    refine h g' cap' 1 cs' w' (hd_ (by simp)) (.row g' cap' 1 cs' _ (hd_ (by simp [hes])) (hd_ hon.size) hcap (hd_ (fun j hj => ?_))) ?_
    · have := hon.new j (by omega)
      rw [Nat.zero_add] at this
      simpa using this
    · have h3 := (hM'.sub (.cons (.tail (.head _ _)) (.same _))).tail
      simp only [List.append_nil] at h3
      exact h3.perm (by
        have h4 : List.Perm (A ++ [(⟨g', cs', t, (0, 0)⟩ : Blk)]) ((⟨g', cs', t, (0, 0)⟩ : Blk) :: (A ++ [])) := List.perm_middle
        simp only [List.append_nil] at h4
        exact h4.symm)
  | row g c n cells F hn hc hl hcell =>
    have hn' := hn.out
    refine ap_own (k := n) (cap := c) hop hw hM ht hzs hs (.tail (Pick.mid A _ [])) hc.out hl hsrc (hby n hn'.symm).1 (hby n hn'.symm).2 (fun g' cap' cs' w' hM' hon hcap _ => ?_)
    refine h g' cap' (n + 1) cs' w' (hd_ (by rw [Nat.add_mul, hn']; omega)) (.row g' cap' (n + 1) cs' _ (hd_ (by rw [List.length_append, hn', hes, Nat.add_mul]; omega)) (hd_ hon.size) hcap (hd_ (fun j hj => ?_))) ?_
    · rw [Nat.add_mul, Nat.one_mul] at hj
      by_cases hlt : j < n * k
      · rw [hon.old j hlt, hcell.out j hlt, List.getElem?_append_left (by omega)]
      · obtain ⟨i, rfl⟩ : ∃ i, j = n * k + i := ⟨j - n * k, by omega⟩
        rw [hon.new i (by omega), List.getElem?_append_right (by omega), hn']
        congr 1
        omega
    · have h3 := (hM'.sub (.cons (.tail (.head _ _)) (.same _))).tail
      simp only [List.append_nil] at h3
      exact h3.perm (by
        have h4 : List.Perm (A ++ [(⟨g', cs', t, (0, 0)⟩ : Blk)]) ((⟨g', cs', t, (0, 0)⟩ : Blk) :: (A ++ [])) := List.perm_middle
        simp only [List.append_nil] at h4
        exact h4.symm)
end

/-! ## Elements one behind the other -/
section
variable {α : Type} (f : α → List Value) (k : Nat)

theorem flat_len {cs : List α} (h : ∀ c ∈ cs, (f c).length = k) : (cs.flatMap f).length = cs.length * k := by
  induction cs with
  | nil => simp
  | cons c cs ih =>
    rw [List.flatMap_cons, List.length_append, ih (fun d hd => h d (List.mem_cons_of_mem _ hd)), h c (List.mem_cons_self ..), List.length_cons, Nat.add_mul]
    omega

theorem flat_at {cs : List α} (h : ∀ c ∈ cs, (f c).length = k) {i : Nat} (hi : i < cs.length) (j : Nat) (hj : j < k) : (cs.flatMap f)[i * k + j]? = (f cs[i])[j]? := by
  induction cs generalizing i with
  | nil => simp at hi
  | cons c cs ih =>
    have h0 := h c (List.mem_cons_self ..)
    rw [List.flatMap_cons]
    cases i with
    | zero => rw [Nat.zero_mul, Nat.zero_add, List.getElem?_append_left (by omega)]; rfl
    | succ i =>
      rw [List.getElem?_append_right (by rw [h0, Nat.add_mul]; omega), h0, Nat.add_mul]
      have := ih (fun d hd => h d (List.mem_cons_of_mem _ hd)) (i := i) (by simpa using hi)
      rw [show i * k + 1 * k + j - k = i * k + j by omega, this]
      rfl

theorem flat_app (cs : List α) (c : α) : cs.flatMap f ++ f c = (cs ++ [c]).flatMap f := by
  rw [List.flatMap_append]; simp

theorem flat_take {cs : List α} (h : ∀ c ∈ cs, (f c).length = k) (i : Nat) : (cs.flatMap f).take (i * k) = (cs.take i).flatMap f := by
  induction cs generalizing i with
  | nil => simp
  | cons c cs ih =>
    have h0 := h c (List.mem_cons_self ..)
    cases i with
    | zero => simp
    | succ i =>
      rw [List.flatMap_cons, List.take_succ_cons, List.flatMap_cons, Nat.add_mul, Nat.one_mul, Nat.add_comm, ← h0, List.take_length_add_append, h0, ih (fun d hd => h d (List.mem_cons_of_mem _ hd))]

theorem flat_drop {cs : List α} (h : ∀ c ∈ cs, (f c).length = k) (i : Nat) : (cs.flatMap f).drop (i * k) = (cs.drop i).flatMap f := by
  induction cs generalizing i with
  | nil => simp
  | cons c cs ih =>
    have h0 := h c (List.mem_cons_self ..)
    cases i with
    | zero => simp
    | succ i =>
      rw [List.flatMap_cons, List.drop_succ_cons, Nat.add_mul, Nat.one_mul, Nat.add_comm, ← h0, List.drop_length_add_append, h0, ih (fun d hd => h d (List.mem_cons_of_mem _ hd))]
end
end Go.Proofs.YtfpfdnckibaldaaDoor.M
