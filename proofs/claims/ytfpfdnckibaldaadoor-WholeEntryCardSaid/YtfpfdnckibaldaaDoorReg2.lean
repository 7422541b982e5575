/- More of regions that draw their order: loads taken first under any condition on the world; records in memory that came in; an element taken out of a slice. No condition. -/
import Derived.Test.YtfpfdnckibaldaaDoorTbl
set_option linter.unusedVariables false
namespace Go.Proofs.YtfpfdnckibaldaaDoor.M
open Go.RowKit
section
variable {P : Program} {ops : Array Oper} {Q : Exit → Act → World → Prop} {a : Act} {w : World} {w0 : Base} {o : Oper} {fr l r : List Blk} {R : Act → World → Prop} {S : World → Prop} {md : Region.Mode} {fuel : Nat} {listed : Array Bool}

theorem run_loadVar_any (w : World) (ad : Addr) (ty : TypeId) (vs : List Value) (ht : RowTy P ty vs.length) (hv : ∀ j v, vs[j]? = some v → w.cell? (ad.add j) = some v) : (loadVar ty ad).run P w = .ok (.agg vs.toArray) w := by
  obtain ⟨d, hu, hd⟩ := ht.agg
  have hl : (loadCells ad vs.length).run P w = .ok vs.toArray w := run_loadCells_list (P := P) w ad vs hv
  have hi := ht.size
  cases hq : P.info? ty with
  | none => simp [hq] at hi
  | some i =>
    have hs : i.size = vs.length := by simpa [hq] using hi
    have hagg : (isAgg ty).run P w = .ok true w := by
      unfold isAgg
      rw [Sem.run_bind, run_underlying hu w]
      cases d <;> simp_all
    simp [loadVar, Sem.run_bind, hagg, sizeOf, typeInfo, hq, hs, hl]

/-- A struct or an array is read whole, wherever it lies. -/
theorem ld_any {ty : TypeId} {x : Operand} {ad : Addr} (vs : List Value) (hop : o.op = .load ty x) (hw : Region.wanted o (yielded ops a.tmps) = true)
    (hx : a.eval x = .pointer (some ad)) (hv : ∀ j v, vs[j]? = some v → w.cell? (ad.add j) = some v) (ht : RowTy P ty vs.length)
    (h : R (a.put o.dst (.agg vs.toArray)) w) : WPK P ops Q R o a w :=
  wanted hw fun K hK => by
    unfold Oper.wp execOp
    simp only [hop, hx, Instr.loadAt, Instr.sureAddr, Sem.run_bind, Sem.run_pure, Result.andThen_ok, run_loadVar_any w ad ty vs ht hv]
    exact hK _ _ h

/-- One cell is read first. -/
theorem rg_one (i : Nat) {oi : Oper} (hi : ops.toList[i]? = some oi) (hs : Region.noSelect ops = true) (hf : Region.free md ops listed i = true) (hr : (Region.ready md ops listed).contains i = true)
    {ty : TypeId} {x : Operand} {ad : Addr} {v : Value}
    (hQ : ∀ c a w, Q (.panic c) (a.put oi.dst v) w → Q (.panic c) a w) (hw : Region.wanted oi (yielded ops a.tmps) = true) (hop : oi.op = .load ty x)
    (hx : a.eval x = .pointer (some ad)) (hv : ∀ w', S w' → w'.cell? ad = some v) (ht : OneTy P ty) (hS : S w)
    (h : wpAnyH P md ops Q S fuel (listed.setIfInBounds i true) (a.put oi.dst v) w) : wpAnyH P md ops Q S (fuel + 1) listed a w :=
  wpAnyH_take (by rw [← Array.getElem?_toList]; exact hi) hs hf hr hQ (.inl ⟨hw, fun w' hM => by
    unfold execOp
    simp only [hop, hx, Instr.loadAt, Instr.sureAddr, Sem.run_bind, Sem.run_pure, Result.andThen_ok, run_loadVar_one w' ad ty v ht (hv w' hM)]⟩) hS h

/-- A struct or an array is read first, whole. -/
theorem rg_row (i : Nat) (vs : List Value) {oi : Oper} (hi : ops.toList[i]? = some oi) (hs : Region.noSelect ops = true) (hf : Region.free md ops listed i = true) (hr : (Region.ready md ops listed).contains i = true)
    {ty : TypeId} {x : Operand} {ad : Addr}
    (hQ : ∀ c a w, Q (.panic c) (a.put oi.dst (.agg vs.toArray)) w → Q (.panic c) a w) (hw : Region.wanted oi (yielded ops a.tmps) = true) (hop : oi.op = .load ty x)
    (hx : a.eval x = .pointer (some ad)) (hv : ∀ w', S w' → ∀ j v, vs[j]? = some v → w'.cell? (ad.add j) = some v) (ht : RowTy P ty vs.length) (hS : S w)
    (h : wpAnyH P md ops Q S fuel (listed.setIfInBounds i true) (a.put oi.dst (.agg vs.toArray)) w) : wpAnyH P md ops Q S (fuel + 1) listed a w :=
  wpAnyH_take (by rw [← Array.getElem?_toList]; exact hi) hs hf hr hQ (.inl ⟨hw, fun w' hM => by
    unfold execOp
    simp only [hop, hx, Instr.loadAt, Instr.sureAddr, Sem.run_bind, Sem.run_pure, Result.andThen_ok, run_loadVar_any w' ad ty vs ht (hv w' hM)]⟩) hS h

/-- Bytes are made a string first. -/
theorem rg_cv (i : Nat) {oi : Oper} (hi : ops.toList[i]? = some oi) (hs : Region.noSelect ops = true) (hf : Region.free md ops listed i = true) (hr : (Region.ready md ops listed).contains i = true)
    {src dst e : TypeId} {x : Operand} {bs : List UInt8}
    (hQ : ∀ c a w, Q (.panic c) (a.put oi.dst (.string ⟨bs.toArray⟩)) w → Q (.panic c) a w) (hw : Region.wanted oi (yielded ops a.tmps) = true) (hop : oi.op = .convert src dst x)
    (hu : P.underlying src = some (.slice e)) (he : P.underlying e = some (.int .u8)) (hd : P.underlying dst = some .string) (hB : ∀ w', S w' → Bytes w' (a.eval x) bs) (hS : S w)
    (h : wpAnyH P md ops Q S fuel (listed.setIfInBounds i true) (a.put oi.dst (.string ⟨bs.toArray⟩)) w) : wpAnyH P md ops Q S (fuel + 1) listed a w :=
  wpAnyH_take (by rw [← Array.getElem?_toList]; exact hi) hs hf hr hQ (.inl ⟨hw, fun w' hM => by
    have hB1 := hB w' hM
    have hrun : (convert src dst (a.eval x)).run P w' = .ok (.string ⟨bs.toArray⟩) w' := by
      generalize a.eval x = v at hB1
      cases hB1 with
      | nil =>
        rw [run_convert_bytes_string w' src dst e none 0 0 hu he hd]
        rfl
      | at_ ad bs c _ h => exact run_convert_bytes_back w' src dst e ad c bs hu he hd (fun j hj => h j bs[j] (by simp [hj]))
    unfold execOp
    simp only [hop, Sem.run_bind, hrun, Result.andThen_ok]
    rfl⟩) hS h

theorem Mem.at_off {g q : Nat} {cs : Array Value} {t : TypeId} {fz : Nat × Nat} (h : Mem w0 w fr l) (hp : Pick l ⟨g, cs, t, fz⟩ r) (vs : List Value) (hv : ∀ j v, vs[j]? = some v → cs[q + j]? = some v) :
    ∀ j v, vs[j]? = some v → w.cell? ((⟨g, q, Option.none⟩ : Addr).add j) = some v := fun j v hj => by
  rw [Addr.add_lit, h.cell hp]
  exact hv j v hj

/-- Of a slice the part from a place on. -/
theorem run_sl_l {x lo : Operand} {t e : TypeId} {base : Option Addr} {len cap size : Nat} {kl : IntKind} {V : Int} {oi : Oper} (w : World) (m : Nat) (hop : oi.op = .slice t x (some lo) none none)
    (hu : P.underlying t = some (.slice e)) (hs : (P.info? e).map (·.size) = some size) (hx : a.eval x = .slice base len cap) (hlo : a.eval lo = .int kl V) (hL : V = (m : Int)) (h1 : m ≤ len) :
    (execOp a.eval oi).run P w = .ok (.value (.slice (cutAt base cap m size) (len - m) (cap - m))) w := by
  cases hq : P.info? e with
  | none => simp [hq] at hs
  | some i =>
    have hsz : i.size = size := by simpa [hq] using hs
    have hrun : (Instr.sliceAt t (.slice base len cap) (some (.int kl V)) none none).run P w = .ok (.slice (cutAt base cap m size) (len - m) (cap - m)) w := by
      simp [Instr.sliceAt, Instr.slice, run_underlying hu, Instr.sliceBounds, run_bound w kl V m len _ hL h1, sizeOf, typeInfo, hq, hsz, cutAt]
    unfold execOp
    simp only [hop, hx, hlo, Option.map_some, Option.map_none, Sem.run_bind, hrun, Result.andThen_ok]
    rfl

theorem extract_list (bs : List UInt8) (m n : Nat) : (ByteArray.mk bs.toArray).extract m n = ByteArray.mk ((bs.take n).drop m).toArray := by
  apply ByteArray.ext
  rw [ByteArray.data_extract]
  apply Array.ext'
  simp [List.drop_take]

/-- Of a string a part. -/
theorem run_sl_str {x lo hi : Operand} {t : TypeId} {bs : List UInt8} {kl kh : IntKind} {V H : Int} {oi : Oper} (w : World) (m n : Nat) (hop : oi.op = .slice t x (some lo) (some hi) none)
    (hu : P.underlying t = some .string) (hx : a.eval x = .string ⟨bs.toArray⟩) (hlo : a.eval lo = .int kl V) (hhi : a.eval hi = .int kh H) (hL : V = (m : Int)) (hH : H = (n : Int)) (h1 : m ≤ n) (h2 : n ≤ bs.length) :
    (execOp a.eval oi).run P w = .ok (.value (.string ⟨((bs.take n).drop m).toArray⟩)) w := by
  have hsz : (ByteArray.mk bs.toArray).size = bs.length := rfl
  have hrun : (Instr.sliceAt t (.string ⟨bs.toArray⟩) (some (.int kl V)) (some (.int kh H)) none).run P w = .ok (.string ⟨((bs.take n).drop m).toArray⟩) w := by
    simp [Instr.sliceAt, Instr.slice, run_underlying hu, Instr.sliceBounds, hsz, run_bound w kl V m n _ hL h1, run_bound w kh H n bs.length _ hH h2, extract_list]
  unfold execOp
  simp only [hop, hx, hlo, hhi, Option.map_some, Option.map_none, Sem.run_bind, hrun, Result.andThen_ok]
  rfl

/-- An element of a slice is another one. -/
theorem tb_set {α : Type} {f : α → List Value} {t : TypeId} {k g c n i : Nat} {cells : Array Value} {cs : List α} {x : α} (hf : ∀ x, (f x).length = k) (hcz : cells.size = c * k) (hcl : n ≤ c) (hn : n = cs.length) (hce : ∀ j, j < n * k → cells[j]? = (cs.flatMap f)[j]?) (hi : i < n) :
    Tbl t k (.slice (some ⟨g, 0, none⟩) n c) ((cs.set i x).flatMap f) [⟨g, lay cells (i * k) (f x), t, (0, 0)⟩] := by
  subst hn
  have hik : (i + 1) * k ≤ cs.length * k := Nat.mul_le_mul_right _ hi
  have hnc : cs.length * k ≤ c * k := Nat.mul_le_mul_right _ hcl
  have hik2 : (i + 1) * k = i * k + k := by rw [Nat.add_mul, Nat.one_mul]
  have hl2 : i * k + (f x).length ≤ cells.size := by rw [hf, hcz]; omega
  refine .row g c _ _ _ (hd_ ?_) (hd_ ?_) hcl (hd_ (fun j hj => ?_))
  · rw [flat_len f k (fun c _ => hf c), List.length_set]
  · rw [lay_size hl2]; exact hcz
  · rw [lay_get hl2, hf]
    have hk : 0 < k := by
      rcases Nat.eq_zero_or_pos k with e | e
      · rw [e] at hj; omega
      · exact e
    obtain ⟨q, r, hr, rfl⟩ : ∃ q r, r < k ∧ j = q * k + r := ⟨j / k, j % k, Nat.mod_lt _ hk, by rw [Nat.mul_comm]; exact (Nat.div_add_mod j k).symm⟩
    have hq : q < cs.length := by
      rcases Nat.lt_or_ge q cs.length with h | h
      · exact h
      · have := Nat.mul_le_mul_right k h
        omega
    rw [flat_at f k (fun c _ => hf c) (by rw [List.length_set]; exact hq) r hr]
    by_cases e : q = i
    · subst e
      rw [if_pos (by omega), List.getElem_set_self, Nat.add_sub_cancel_left]
    · have hne : ¬ (i * k ≤ q * k + r ∧ q * k + r < i * k + k) := by
        rintro ⟨h1, h2⟩
        rcases Nat.lt_or_ge q i with h | h
        · have := Nat.mul_le_mul_right k (show q + 1 ≤ i from h)
          rw [Nat.add_mul, Nat.one_mul] at this
          omega
        · have := Nat.mul_le_mul_right k (show i + 1 ≤ q by omega)
          omega
      rw [if_neg hne, List.getElem_set_ne (fun h => e h.symm), hce _ hj, flat_at f k (fun c _ => hf c) hq r hr]

theorem lay_one {cells : Array Value} {i : Nat} {v : Value} (hi : i < cells.size) : lay cells (i * 1) [v] = cells.setIfInBounds i v := by
  apply Array.ext_getElem?
  intro j
  rw [Nat.mul_one, lay_get (by simp only [List.length_singleton]; omega), Array.getElem?_setIfInBounds]
  by_cases e : i = j
  · subst e
    rw [if_pos (by simp), if_pos rfl, if_pos hi]
    simp
  · rw [if_neg (by simp; omega), if_neg e]

theorem flat_erase {α : Type} (f : α → List Value) (k : Nat) {cs : List α} (h : ∀ c ∈ cs, (f c).length = k) (i : Nat) : (cs.flatMap f).take (i * k) ++ (cs.flatMap f).drop ((i + 1) * k) = (cs.eraseIdx i).flatMap f := by
  rw [flat_take f k h, flat_drop f k h, List.eraseIdx_eq_take_drop_succ, List.flatMap_append]

/-- The greater of nought and a number. -/
theorem mx_zero {c x : Operand} {pk : Int} {pm : Nat} (hop : o.op = .call { callee := .builtin .max, args := #[c, x], argTypes := #[3, 3] }) (hw : Region.wanted o (yielded ops a.tmps) = true) (hc : a.eval c = .int .i64 0) (hx : a.eval x = .int .i64 pk)
    (hpm : Hid ((pm : Int) = if 0 < pk then pk else 0)) (h : R (a.put o.dst (.int .i64 (pm : Int))) w) : WPK P ops Q R o a w :=
  wanted hw fun K hK => by
    have hrun : (Builtin.max_ #[3, 3] o.type #[.int .i64 0, .int .i64 pk]).run P w = .ok (.int .i64 (pm : Int)) w := by
      rw [hpm.out]
      by_cases hp : 0 < pk
      · rw [if_pos hp]; simp [Builtin.max_, Builtin.max2, hp]
      · rw [if_neg hp]; simp [Builtin.max_, Builtin.max2, hp]
    unfold Oper.wp
    simp only [execOp, hop, resolve, Sem.run_bind, Sem.run_pure, Result.andThen_ok, invoke, builtin, List.map_toArray, List.map_cons, List.map_nil, hc, hx, hrun]
    exact hK _ _ h

/-- An element is put behind, wherever the row lies in the list. -/
theorem tb_app_p {ts t : TypeId} {k bytes : Nat} {z v : Value} {sx x : Operand} {gq : Nat} {es F : List Value} {Rm A lst : List Blk}
    (hop : o.op = .call { callee := .builtin .append, args := #[sx, x], argTypes := #[ts, ts] }) (hw : Region.wanted o (yielded ops a.tmps) = true) (ht : SlTy P ts t k bytes z) (hzs : z.cells.size = k)
    (hM : Mem w0 w fr (⟨gq, es.toArray, t, (0, 0)⟩ :: lst)) (hA : lst.Perm (A ++ Rm)) (hT : Tbl t k v F Rm) (hs : a.eval sx = v) (hx : a.eval x = .slice (some ⟨gq, 0, none⟩) 1 1) (hes : es.length = k) (h1 : allOne es = true)
    (hk : 0 < k) (hb : (F.length + k) * bytes ≤ 140737488355328) (hF : F.length + k ≤ 4611686018427387904)
    (h : ∀ (g c n : Nat) (cells : Array Value) (w' : World), Hid (n * k = F.length + k) → Tbl t k (.slice (some ⟨g, 0, none⟩) n c) (F ++ es) [⟨g, cells, t, (0, 0)⟩] → Mem w0 w' fr (A ++ [⟨g, cells, t, (0, 0)⟩]) → R (a.put o.dst (.slice (some ⟨g, 0, none⟩) n c)) w') : WPK P ops Q R o a w :=
  tb_app hop hw ht hzs (hM.perm (hA.cons _)) rfl hT hs hx hes h1 hk hb hF h

/-- An element is taken out of a slice. -/
theorem tb_del {ts t : TypeId} {k bytes i n c g : Nat} {z : Value} {sx x : Operand} {cells : Array Value} {F : List Value} {base : Option Addr}
    (hop : o.op = .call { callee := .builtin .append, args := #[sx, x], argTypes := #[ts, ts] }) (hw : Region.wanted o (yielded ops a.tmps) = true) (ht : SlTy P ts t k bytes z)
    (hM : Mem w0 w fr l) (hp : Pick l ⟨g, cells, t, (0, 0)⟩ r) (hi : i < n) (hk : 0 < k) (hF : F.length = n * k) (h1 : allOne F = true) (hcz : cells.size = c * k) (hcl : n ≤ c) (hce : ∀ j, j < n * k → cells[j]? = F[j]?)
    (hs : a.eval sx = .slice (some ⟨g, 0, none⟩) i c) (hx : a.eval x = .slice base (n - (i + 1)) (c - (i + 1))) (hb : base = cutAt (some ⟨g, 0, none⟩) c (i + 1) k)
    (h : ∀ (cells' : Array Value) (n' : Nat) (w' : World), Hid (n' + 1 = n) → Tbl t k (.slice (some ⟨g, 0, none⟩) n' c) (F.take (i * k) ++ F.drop ((i + 1) * k)) [⟨g, cells', t, (0, 0)⟩] → Mem w0 w' fr (⟨g, cells', t, (0, 0)⟩ :: r) → R (a.put o.dst (.slice (some ⟨g, 0, none⟩) n' c)) w') : WPK P ops Q R o a w := by
  have hnews : (F.drop ((i + 1) * k)).length = (n - (i + 1)) * k := by rw [List.length_drop, hF, Nat.sub_mul]
  have hik : (i + 1) * k ≤ n * k := Nat.mul_le_mul_right _ hi
  have hnc : n * k ≤ c * k := Nat.mul_le_mul_right _ hcl
  have hik2 : (i + 1) * k = i * k + k := by rw [Nat.add_mul, Nat.one_mul]
  have hsub : (n - (i + 1)) * k = n * k - (i + 1) * k := Nat.sub_mul _ _ _
  have hsrc : Src P k ts (a.eval x) (n - (i + 1)) (F.drop ((i + 1) * k)) w := by
    rw [hx, hb]
    by_cases hci : c = i + 1
    · have hn0 : n - (i + 1) = 0 := by omega
      have hnil : F.drop ((i + 1) * k) = [] := List.eq_nil_of_length_eq_zero (by rw [hnews, hn0, Nat.zero_mul])
      rw [hnil, hn0]
      simp only [cutAt, if_pos hci]
      exact Src.ofSlice w ht.u _ 0 _ [] (by simp) (fun j u hu => by simp at hu) (fun u hu => by simp at hu)
    · simp only [cutAt, if_neg hci, Option.map_some]
      refine Src.ofSlice w ht.u _ _ _ _ hnews (fun j u hu => ?_) (fun u hu => allOne_iff.1 h1 u (List.mem_of_mem_drop hu))
      have hj : j < (n - (i + 1)) * k := by rw [← hnews]; exact (List.getElem?_eq_some_iff.1 hu).1
      rw [Addr.add_lit, Nat.zero_add, Addr.add_lit, hM.cell hp, hce _ (by omega), ← hu, List.getElem?_drop]
  have hle : i + (n - (i + 1)) ≤ c := by omega
  refine ap_fit (k := i) (cap := c) hop hw hM ht hs hp hcz hsrc hle (fun w' hM' => ?_)
  have hn' : i + (n - (i + 1)) + 1 = n := by omega
  have hl2 : i * k + (F.drop ((i + 1) * k)).length ≤ cells.size := by rw [hnews, hcz]; omega
  have h9 := congrArg (· * k) hn'
  simp only [Nat.add_mul, Nat.one_mul] at h9
  refine h (lay cells (i * k) (F.drop ((i + 1) * k))) (i + (n - (i + 1))) w' (hd_ hn') (.row g c _ _ _ (hd_ ?_) (hd_ ?_) hle (hd_ (fun j hj => ?_))) hM'
  · rw [List.length_append, List.length_take, hnews, hF, Nat.add_mul]
    omega
  · rw [lay_size hl2]; exact hcz
  · rw [Nat.add_mul] at hj
    rw [lay_get hl2, hnews]
    have htk : (F.take (i * k)).length = i * k := by rw [List.length_take, hF]; omega
    by_cases hlt : j < i * k
    · rw [if_neg (by omega), List.getElem?_append_left (by omega), List.getElem?_take_of_lt hlt, hce _ (by omega)]
    · rw [if_pos (by omega), List.getElem?_append_right (by omega), htk]
end
end Go.Proofs.YtfpfdnckibaldaaDoor.M
