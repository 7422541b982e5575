/- A store and the contents that stand in it: each block is held just as often as contents stand in it, each content has its bytes. What Append, Share, Drop and Read do to that. No condition but that of sizes. -/
import Derived.Test.YtiamkbmefllljaaExt8
set_option linter.unusedVariables false
namespace Go.Proofs.Ytiamkbmefllljaa.E
open Go.RowKit Go.Proofs.Ytiamkbmefllljaa.M Go.Proofs.Ytiamkbmefllljaa.A Go.Proofs.Ytiamkbmefllljaa.L

/-- A content: its slice, its blocks, its bytes. -/
structure Ct where
  x : Value
  L : List Nat
  b : List UInt8

/-- How often block id stands in contents. -/
def tot (cs : List Ct) (id : Nat) : Nat := (cs.map fun c => c.L.count id).sum

theorem tot_cons (c : Ct) (cs : List Ct) (id : Nat) : tot (c :: cs) id = c.L.count id + tot cs id := by simp [tot]
theorem tot_perm {cs cs' : List Ct} (h : cs.Perm cs') (id : Nat) : tot cs id = tot cs' id := List.Perm.sum_nat (h.map fun c : Ct => c.L.count id)
theorem tot_pos {cs : List Ct} {c : Ct} (hc : c ∈ cs) {id : Nat} : c.L.count id ≤ tot cs id := by
  induction cs with
  | nil => simp at hc
  | cons d cs ih =>
    rw [tot_cons]
    rcases List.mem_cons.1 hc with rfl | hc
    · omega
    · have := ih hc; omega

/-- A store and all its contents. -/
structure Cs (p : Ptr) (s : St) (cs : List Ct) : Prop where
  ok : Okay p s
  H : ∀ id, s.H id = (tot cs id : Nat)
  len : ∀ c ∈ cs, c.L.length = nd c.b.length
  mem : ∀ c ∈ cs, ∀ id ∈ c.L, id < p.n
  byt : ∀ c ∈ cs, ∀ i, i < c.b.length → byte s.D c.L i = c.b.getD i 0

/-- The contents' slices stand in the base. -/
def In (B : Base) (cs : List Ct) : Prop := ∀ c ∈ cs, IdsAt B c.x c.L

theorem In.le {A B : Base} (h : Le A B) {cs : List Ct} (hI : In A cs) : In B cs := fun c hc => (hI c hc).le h
theorem In.perm {B : Base} {cs cs' : List Ct} (hp : cs.Perm cs') (hI : In B cs) : In B cs' := fun c hc => hI c (hp.mem_iff.2 hc)
theorem In.nil (B : Base) : In B [] := fun c hc => by simp at hc
theorem In.cons {B : Base} {c : Ct} {cs : List Ct} (h : IdsAt B c.x c.L) (hI : In B cs) : In B (c :: cs) := fun d hd => by
  rcases List.mem_cons.1 hd with rfl | hd
  · exact h
  · exact hI d hd
theorem In.tail {B : Base} {c : Ct} {cs : List Ct} (hI : In B (c :: cs)) : In B cs := fun d hd => hI d (List.mem_cons_of_mem _ hd)

section
variable {p : Ptr} {s s' : St} {c c' : Ct} {cs cs' : List Ct} {bs : List UInt8}

theorem Cs.start (ok : Okay p s) (h : ∀ id, s.H id = 0) : Cs p s [] :=
  ⟨ok, fun id => by rw [h id]; rfl, fun c hc => by simp at hc, fun c hc => by simp at hc, fun c hc => by simp at hc⟩

theorem Cs.perm (h : Cs p s cs) (hp : cs.Perm cs') : Cs p s cs' :=
  ⟨h.ok, fun id => by rw [h.H id, tot_perm hp], fun c hc => h.len c (hp.mem_iff.2 hc), fun c hc => h.mem c (hp.mem_iff.2 hc), fun c hc => h.byt c (hp.mem_iff.2 hc)⟩

/-- A content of no bytes. -/
def none_ : Ct := ⟨.slice none 0 0, [], []⟩

theorem Cs.begin_ (h : Cs p s cs) : Cs p s (none_ :: cs) := by
  refine ⟨h.ok, fun id => by rw [h.H id, tot_cons]; simp [none_], fun c hc => ?_, fun c hc => ?_, fun c hc => ?_⟩
  · rcases List.mem_cons.1 hc with rfl | hc
    · rfl
    · exact h.len c hc
  · rcases List.mem_cons.1 hc with rfl | hc
    · intro id hid; simp [none_] at hid
    · exact h.mem c hc
  · rcases List.mem_cons.1 hc with rfl | hc
    · intro i hi; simp [none_] at hi
    · exact h.byt c hc

theorem Cs.pos (h : Cs p s cs) (hc : c ∈ cs) {id : Nat} (hid : id ∈ c.L) : id < p.n ∧ 0 < s.H id := by
  refine ⟨h.mem c hc id hid, ?_⟩
  have h1 : 0 < c.L.count id := List.count_pos_iff.2 hid
  have h2 := tot_pos hc (id := id)
  rw [h.H id]
  omega

theorem Cs.cn (h : Cs p s cs) (hc : c ∈ cs) (hl : c.b.length ≤ 1048576) : Cn p s c.L c.b.length :=
  ⟨hl, h.len c hc, fun id hid => ⟨h.mem c hc id hid, by have := tot_pos hc (id := id); rw [h.H id]; omega⟩⟩

theorem Cs.add (h : Cs p s (c :: cs)) {L' : List Nat} {y : Value} (a : Added p s c.L c.b.length bs s' L') : Cs p s' (⟨y, L', c.b ++ bs⟩ :: cs) := by
  have h0 := h.H
  refine ⟨a.ok, fun id => ?_, fun d hd => ?_, fun d hd => ?_, fun d hd => ?_⟩
  · have h1 := a.H id
    have h2 := h0 id
    rw [tot_cons] at h2 ⊢
    simp only
    omega
  · rcases List.mem_cons.1 hd with rfl | hd
    · simp only [List.length_append]; exact a.len
    · exact h.len d (List.mem_cons_of_mem _ hd)
  · rcases List.mem_cons.1 hd with rfl | hd
    · exact a.mem
    · exact h.mem d (List.mem_cons_of_mem _ hd)
  · rcases List.mem_cons.1 hd with rfl | hd
    · intro i hi
      simp only [List.length_append] at hi ⊢
      rw [a.bytes i hi]
      by_cases hin : i < c.b.length
      · rw [if_pos hin, h.byt c (List.mem_cons_self ..) i hin, List.getD_eq_getElem?_getD, List.getD_eq_getElem?_getD, List.getElem?_append_left hin]
      · rw [if_neg hin, List.getD_eq_getElem?_getD, List.getD_eq_getElem?_getD, List.getElem?_append_right (by omega)]
    · intro i hi
      have hd' := List.mem_cons_of_mem c hd
      rw [← h.byt d hd' i hi]
      unfold byte
      have hl := h.len d hd'
      have hlt : i / 64 < d.L.length := by unfold nd at hl; omega
      refine a.other _ ?_ _ (Nat.mod_lt _ (by omega))
      have h1 : 0 < d.L.count (d.L.getD (i / 64) 0) := List.count_pos_iff.2 (getD_mem hlt)
      have h2 := tot_pos hd (id := d.L.getD (i / 64) 0)
      rw [h0, tot_cons]
      omega

theorem Cs.dup (h : Cs p s (c :: cs)) {y : Value} (ok' : Okay p s') (hD : s'.D = s.D) (hH : ∀ id, s'.H id = s.H id + (c.L.count id : Nat)) : Cs p s' (⟨y, c.L, c.b⟩ :: c :: cs) := by
  refine ⟨ok', fun id => ?_, fun d hd => ?_, fun d hd => ?_, fun d hd => ?_⟩
  · rw [hH, h.H id, tot_cons ⟨y, c.L, c.b⟩]
    simp only
    omega
  · rcases List.mem_cons.1 hd with rfl | hd
    · exact h.len c (List.mem_cons_self ..)
    · exact h.len d hd
  · rcases List.mem_cons.1 hd with rfl | hd
    · exact h.mem c (List.mem_cons_self ..)
    · exact h.mem d hd
  · rw [hD]
    rcases List.mem_cons.1 hd with rfl | hd
    · exact h.byt c (List.mem_cons_self ..)
    · exact h.byt d hd

theorem Cs.drop (h : Cs p s (c :: cs)) (ok' : Okay p s') (hD : s'.D = s.D) (hH : ∀ id, s'.H id = s.H id - (c.L.count id : Nat)) : Cs p s' cs := by
  refine ⟨ok', fun id => ?_, fun d hd => h.len d (List.mem_cons_of_mem _ hd), fun d hd => h.mem d (List.mem_cons_of_mem _ hd), fun d hd => by rw [hD]; exact h.byt d (List.mem_cons_of_mem _ hd)⟩
  rw [hH, h.H id, tot_cons]
  omega

theorem cnt_zero {H : Nat → Int} (h : ∀ id, H id = 0) (n : Nat) : cnt H n = 0 := by
  induction n with
  | zero => rfl
  | succ n ih => simp only [cnt]; rw [ih, h n]; rfl

theorem Cs.all (h : Cs p s []) : s.m = p.n := by
  have h1 := h.ok.bal
  rw [cnt_zero (fun id => by rw [h.H id]; rfl)] at h1
  omega

theorem tot_le {k : Nat} (h : ∀ c ∈ cs, c.L.length ≤ k) (id : Nat) : tot cs id ≤ cs.length * k := by
  induction cs with
  | nil => simp [tot]
  | cons d cs ih =>
    rw [tot_cons, List.length_cons, Nat.add_mul, Nat.one_mul]
    have h1 := ih (fun c hc => h c (List.mem_cons_of_mem _ hc))
    have h2 := h d (List.mem_cons_self ..)
    have h3 : d.L.count id ≤ d.L.length := List.count_le_length
    omega

theorem Cs.lim (h : Cs p s cs) (hc : c ∈ cs) (hn : cs.length ≤ 1000) (hb : ∀ c ∈ cs, c.b.length ≤ 1048576) {id : Nat} (hid : id ∈ c.L) : id < p.n ∧ 0 < s.H id ∧ s.H id + (c.L.count id : Nat) ≤ 1073741824 := by
  have h1 := h.pos hc hid
  have hk : ∀ c ∈ cs, c.L.length ≤ 16384 := fun d hd => by
    have h2 := h.len d hd
    have h3 := hb d hd
    unfold nd at h2
    omega
  have h2 := tot_le hk id
  have h3 := hk c hc
  have h4 : c.L.count id ≤ c.L.length := List.count_le_length
  refine ⟨h1.1, h1.2, ?_⟩
  rw [h.H id]
  have h5 : cs.length * 16384 ≤ 1000 * 16384 := Nat.mul_le_mul_right _ hn
  omega
end

section
variable {w0 : Base} {w : World} {p : Ptr} {s : St} {l : List Blk} {c : Ct} {cs : List Ct}

/-- Bytes put behind a content, where there is room. -/
theorem cappend (hM : Mem w0 w (arena p s) l) (h : Cs p s (c :: cs)) (hI : In w0 (c :: cs)) {bx : Value} {bs : List UInt8} (hB : BsAt w0 bx bs) (hmax : c.b.length + bs.length ≤ 1048576) (hfit : more s.H c.L c.b.length bs.length ≤ s.m)
    {v v' : Int} {b' : List UInt8} (hv : v = (c.b.length : Nat)) (hb' : c.b ++ bs = b') (hv' : v' = (b'.length : Nat)) :
    Calls Try.prog 22 #[own p, .agg #[c.x, .int .i64 v], bx] w fun e w' => ∃ (s' : St) (a : Option Addr) (m cc : Nat) (L' : List Nat) (B : Base), e = .returned (.tuple #[.agg #[.slice a m cc, .int .i64 v'], .int .i64 0]) ∧ Le w0 B ∧ Mem B w' (arena p s') l ∧ Cs p s' (⟨.slice a m cc, L', b'⟩ :: cs) ∧ In B (⟨.slice a m cc, L', b'⟩ :: cs) ∧
      s'.m + more s.H c.L c.b.length bs.length = s.m ∧ ((∀ id ∈ c.L, s.H id = 1) → ∀ id ∈ L', s'.H id = 1) := by
  subst hv hb' hv'
  refine (eappend_ok hM h.ok c.x bx c.L bs c.b.length (hI c (List.mem_cons_self ..)) hB (h.cn (List.mem_cons_self ..) (by omega)) hmax hfit).mono ?_
  rintro e w' ⟨s', y, L', B, rfl, hB', hI', hM', ha⟩
  obtain ⟨a, cc, rfl⟩ := (hI' _ _ _ hM').len
  exact ⟨s', a, _, cc, L', B, by rw [List.length_append], hB', hM', h.add ha, (hI.le hB').tail.cons hI', ha.m, ha.one⟩

/-- .. where there is none. -/
theorem cappend_full (hM : Mem w0 w (arena p s) l) (h : Cs p s (c :: cs)) (hI : In w0 (c :: cs)) {bx : Value} {bs : List UInt8} (hB : BsAt w0 bx bs) (hmax : c.b.length + bs.length ≤ 1048576) (hfit : s.m < more s.H c.L c.b.length bs.length)
    {v : Int} (hv : v = (c.b.length : Nat)) :
    Calls Try.prog 22 #[own p, .agg #[c.x, .int .i64 v], bx] w fun e w' => e = .returned (.tuple #[.agg #[c.x, .int .i64 (c.b.length : Nat)], .int .i64 3]) ∧ Mem w0 w' (arena p s) l := by
  subst hv
  exact eappend_full hM h.ok c.x bx c.L bs c.b.length (hI c (List.mem_cons_self ..)) hB (h.cn (List.mem_cons_self ..) (by omega)) hmax hfit

/-- A content shared. -/
theorem cshare (hM : Mem w0 w (arena p s) l) (h : Cs p s (c :: cs)) (hI : In w0 (c :: cs)) (hn : (c :: cs).length ≤ 1000) (hb : ∀ d ∈ c :: cs, d.b.length ≤ 1048576) {v : Int} (hv : v = (c.b.length : Nat)) :
    Calls Try.prog 23 #[own p, .agg #[c.x, .int .i64 v]] w fun e w' => ∃ (s' : St) (a : Option Addr) (m cc : Nat) (B : Base), e = .returned (.tuple #[.agg #[.slice a m cc, .int .i64 v], .int .i64 0]) ∧ Le w0 B ∧ Mem B w' (arena p s') l ∧ Cs p s' (⟨.slice a m cc, c.L, c.b⟩ :: c :: cs) ∧ In B (⟨.slice a m cc, c.L, c.b⟩ :: c :: cs) ∧ s'.m = s.m := by
  subst hv
  have hc := List.mem_cons_self (a := c) (l := cs)
  have hl : c.L.length ≤ 1048576 := by
    have h1 := h.len c hc
    have h2 := hb c hc
    unfold nd at h1
    omega
  refine (eshare hM h.ok c.x c.L c.b.length (hI c hc) hl (fun id hid => h.lim hc hn hb hid)).mono ?_
  rintro e w' ⟨s', y, B, rfl, hB', hI', hM', ok', hD, hm, hH⟩
  obtain ⟨a, cc, rfl⟩ := (hI' _ _ _ hM').len
  exact ⟨s', a, _, cc, B, rfl, hB', hM', h.dup ok' hD hH, (hI.le hB').cons hI', hm⟩

/-- Bytes of a known row, laid away. -/
theorem parkedB {fr : List Blk} {g n cc : Nat} {cells : Array Value} {t : TypeId} {fz : Nat × Nat} (hM : Mem w0 w fr (⟨g, cells, t, fz⟩ :: l)) (bs : List UInt8) (hn : bs.length = n) (hc : n ≤ cc) (h : ∀ j, j < n → cells[j]? = some (u8 (bs.getD j 0))) :
    ∃ B, Le w0 B ∧ Mem B w fr l ∧ BsAt B (.slice (some ⟨g, 0, none⟩) n cc) bs := by
  refine ⟨_, Le.park g (.cells cells t fz), hM.park, fun w' fr' l' hM' => ?_⟩
  subst hn
  refine .at_ _ _ _ hc (fun j b hj => ?_)
  rw [Addr.add_lit, Nat.zero_add]
  have hk := hM'.kget (g := g) (o := .cells cells t fz) (List.mem_cons_self ..)
  have hlt : j < bs.length := (List.getElem?_eq_some_iff.1 hj).1
  rw [cell_of_row w' g j cells t fz hk, h j hlt, List.getD_eq_getElem?_getD, hj]
  rfl

/-- A content dropped. -/
theorem cdrop (hM : Mem w0 w (arena p s) l) (h : Cs p s (c :: cs)) (hI : In w0 (c :: cs)) (hb : c.b.length ≤ 1048576) {v : Int} (hv : v = (c.b.length : Nat)) :
    Calls Try.prog 24 #[own p, .agg #[c.x, .int .i64 v]] w fun e w' => ∃ s', e = .returned (.int .i64 0) ∧ Mem w0 w' (arena p s') l ∧ Cs p s' cs := by
  subst hv
  have hc := List.mem_cons_self (a := c) (l := cs)
  have hl : c.L.length ≤ 1048576 := by
    have h1 := h.len c hc
    unfold nd at h1
    omega
  refine (edrop hM h.ok c.x c.L c.b.length (fun s' w' h' => hI c hc w' _ _ h') hl (h.cn hc hb).mem).mono ?_
  rintro e w' ⟨s', he, hM', ok', hD, hH⟩
  exact ⟨s', he, hM', h.drop ok' hD hH⟩

/-- A part of a content read. -/
theorem cread (hM : Mem w0 w (arena p s) l) (h : Cs p s cs) (hI : In w0 cs) (hc : c ∈ cs) (hb : c.b.length ≤ 1048576) (q k : Nat) (hqk : q + k ≤ c.b.length) {v vq vk : Int} (hv : v = (c.b.length : Nat)) (hq : vq = (q : Nat)) (hk : vk = (k : Nat)) :
    Calls Try.prog 28 #[own p, .agg #[c.x, .int .i64 v], .int .i64 vq, .int .i64 vk] w fun e w' => ∃ g cc cells, e = .returned (.tuple #[.slice (some ⟨g, 0, none⟩) k cc, .int .i64 0]) ∧ Mem w0 w' (arena p s) (⟨g, cells, 5, (0, 0)⟩ :: l) ∧
      cells.size = cc ∧ k ≤ cc ∧ ∀ j, j < k → cells[j]? = some (u8 (((c.b.drop q).take k).getD j 0)) := by
  subst hv hq hk
  refine (eread hM h.ok c.x c.L c.b.length q k (fun w' h' => hI c hc w' _ _ h') (hid_ (h.len c hc)) hb (fun id hid => h.pos hc hid) hqk).mono ?_
  rintro e w' ⟨g, cc, cells, he, hM', h1, h2, h3⟩
  refine ⟨g, cc, cells, he, hM', h1, h2, fun j hj => ?_⟩
  rw [h3 j hj, h.byt c hc _ (by omega), getD_take hj, getD_drop]

/-- A place, or a length, that isn't in a content. -/
theorem cread_bad (hM : Mem w0 w (arena p s) l) (h : Cs p s cs) (hI : In w0 cs) (hc : c ∈ cs) (hb : c.b.length ≤ 1048576) (q k : Int) (hqk : q < 0 ∨ (c.b.length : Int) < q ∨ k < 0 ∨ c.b.length - q < k) {v : Int} (hv : v = (c.b.length : Nat)) :
    Calls Try.prog 28 #[own p, .agg #[c.x, .int .i64 v], .int .i64 q, .int .i64 k] w fun e w' => e = .returned (.tuple #[.slice none 0 0, .int .i64 1]) ∧ Mem w0 w' (arena p s) l := by
  subst hv
  obtain ⟨b, cc, hx⟩ := (hI c hc w _ _ hM).len
  rw [hx]
  exact eread_bad hM b c.L.length cc c.b.length (h.len c hc) hb q k hqk
end
end Go.Proofs.Ytiamkbmefllljaa.E
