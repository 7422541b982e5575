/- What comes of an entry that is told ahead, and of one that stands in a header. Condition: the table of powers of ten reads as the text lays it. -/
import Derived.Test.YtfpfdnckibaldaaDoorEd
import Derived.Test.YtfpfdnckibaldaaDoorEe
import Derived.Deep.CutBlock
import Derived.Deep.CutRange
set_option linter.unusedSimpArgs false
set_option linter.unusedVariables false
namespace Go.Proofs.YtfpfdnckibaldaaDoor.Z
open Go.RowKit Go.Proofs.YtfpfdnckibaldaaDoor.M Go.Proofs.YtfpfdnckibaldaaDoor.D Go.Proofs.YtfpfdnckibaldaaDoor.E Go.Proofs.YtfpfdnckibaldaaDoor.B Go.Proofs.YtfpfdnckibaldaaDoor.K Go.Proofs.YtfpfdnckibaldaaDoor.Q Go.Lib


theorem emp : isE ⟨#[]⟩ = true := by unfold isE; rw [ByteArray.toList_eq]; rfl
theorem isE_eq {v : ByteArray} (h : isE v = true) : v = ⟨#[]⟩ := by
  unfold isE at h
  rw [ByteArray.toList_eq] at h
  obtain ⟨d⟩ := v
  have h2 : d.toList = [] := by simpa using h
  congr 1
  exact Array.toList_eq_nil_iff.1 h2 |> fun h => h
theorem oth : isE ⟨#[111, 116, 104, 101, 114]⟩ = false := by unfold isE; rw [ByteArray.toList_eq]; rfl
def keys : Nat → ByteArray
  | 0 => ⟨#[112, 97, 116, 104]⟩
  | 1 => ⟨#[108, 105, 110, 107, 112, 97, 116, 104]⟩
  | 2 => ⟨#[117, 110, 97, 109, 101]⟩
  | 3 => ⟨#[103, 110, 97, 109, 101]⟩
  | 4 => ⟨#[117, 105, 100]⟩
  | 5 => ⟨#[103, 105, 100]⟩
  | 6 => ⟨#[115, 105, 122, 101]⟩
  | 7 => ⟨#[109, 116, 105, 109, 101]⟩
  | _ => ⟨#[]⟩
theorem keys_ne : ∀ i, i < 8 → ∀ j, j < 8 → i < j → ((keys j).toList == (keys i).toList) = false := by
  intro i hi j hj hij
  rw [ByteArray.toList_eq, ByteArray.toList_eq]
  have hd : ∀ i : Fin 8, ∀ j : Fin 8, i < j → ((keys j.val).data.toList == (keys i.val).data.toList) = false := by decide
  exact hd ⟨i, hi⟩ ⟨j, hj⟩ hij

section
variable {w : World} {gL : Nat} {nm lk un gn : ByteArray} {ui gi sz mt : Int}
theorem key_cell (hL : w.heap[gL]? = some (.cells #[.string ⟨#[112, 97, 116, 104]⟩, .string nm, .string ⟨#[108, 105, 110, 107, 112, 97, 116, 104]⟩, .string lk, .string ⟨#[117, 110, 97, 109, 101]⟩, .string un, .string ⟨#[103, 110, 97, 109, 101]⟩, .string gn, .string ⟨#[117, 105, 100]⟩, .string ⟨(itoa ui).toArray⟩, .string ⟨#[103, 105, 100]⟩, .string ⟨(itoa gi).toArray⟩, .string ⟨#[115, 105, 122, 101]⟩, .string ⟨(itoa sz).toArray⟩, .string ⟨#[109, 116, 105, 109, 101]⟩, .string ⟨(itoa mt).toArray⟩] 50 (0, 0))) : ∀ j, j < 8 → w.cell? ⟨gL, j * 2, none⟩ = some (.string (keys j)) := by
  intro j hj
  rw [cell_of_row w gL (j * 2) _ _ _ hL]
  match j, hj with
  | 0, _ => rfl
  | 1, _ => rfl
  | 2, _ => rfl
  | 3, _ => rfl
  | 4, _ => rfl
  | 5, _ => rfl
  | 6, _ => rfl
  | 7, _ => rfl
theorem val_cell (hL : w.heap[gL]? = some (.cells #[.string ⟨#[112, 97, 116, 104]⟩, .string nm, .string ⟨#[108, 105, 110, 107, 112, 97, 116, 104]⟩, .string lk, .string ⟨#[117, 110, 97, 109, 101]⟩, .string un, .string ⟨#[103, 110, 97, 109, 101]⟩, .string gn, .string ⟨#[117, 105, 100]⟩, .string ⟨(itoa ui).toArray⟩, .string ⟨#[103, 105, 100]⟩, .string ⟨(itoa gi).toArray⟩, .string ⟨#[115, 105, 122, 101]⟩, .string ⟨(itoa sz).toArray⟩, .string ⟨#[109, 116, 105, 109, 101]⟩, .string ⟨(itoa mt).toArray⟩] 50 (0, 0))) (i : Nat) (v : Value) (hv : (#[.string ⟨#[112, 97, 116, 104]⟩, .string nm, .string ⟨#[108, 105, 110, 107, 112, 97, 116, 104]⟩, .string lk, .string ⟨#[117, 110, 97, 109, 101]⟩, .string un, .string ⟨#[103, 110, 97, 109, 101]⟩, .string gn, .string ⟨#[117, 105, 100]⟩, .string ⟨(itoa ui).toArray⟩, .string ⟨#[103, 105, 100]⟩, .string ⟨(itoa gi).toArray⟩, .string ⟨#[115, 105, 122, 101]⟩, .string ⟨(itoa sz).toArray⟩, .string ⟨#[109, 116, 105, 109, 101]⟩, .string ⟨(itoa mt).toArray⟩] : Array Value)[i]? = some v) : w.cell? ⟨gL, i, none⟩ = some v := by
  rw [cell_of_row w gL i _ _ _ hL]
  exact hv
end

def Lk (k : Int) (lk : ByteArray) : Prop := (k = 2 ∨ k = 3) ∧ isE lk = false ∨ (k ≠ 2 ∧ k ≠ 3) ∧ lk = ⟨#[]⟩
def Sx (fm k : Int) (nm : ByteArray) : Prop := fm = 0 → k = 1 → hasSuffix nm.data.toList [47] = false

theorem make2 (w : World) (hT : Tab w) (gL : Nat) (nm lk un gn : ByteArray) (md ui gi mt sz : Int) (fm ty hi hj hs ht k : Int) (hn hl hp hu hg : ByteArray) (hL : w.heap[gL]? = some (.cells #[.string ⟨#[112, 97, 116, 104]⟩, .string nm, .string ⟨#[108, 105, 110, 107, 112, 97, 116, 104]⟩, .string lk, .string ⟨#[117, 110, 97, 109, 101]⟩, .string un, .string ⟨#[103, 110, 97, 109, 101]⟩, .string gn, .string ⟨#[117, 105, 100]⟩, .string ⟨(itoa ui).toArray⟩, .string ⟨#[103, 105, 100]⟩, .string ⟨(itoa gi).toArray⟩, .string ⟨#[115, 105, 122, 101]⟩, .string ⟨(itoa sz).toArray⟩, .string ⟨#[109, 116, 105, 109, 101]⟩, .string ⟨(itoa mt).toArray⟩] 50 (0, 0)))
    (bui : -9223372036854775808 ≤ ui ∧ ui ≤ 9223372036854775807) (bgi : -9223372036854775808 ≤ gi ∧ gi ≤ 9223372036854775807) (bsz : -9223372036854775808 ≤ sz ∧ sz ≤ 9223372036854775807) (bmt : -9223372036854775808 ≤ mt ∧ mt ≤ 9223372036854775807) (p1 : 0 ≤ ui) (p2 : 0 ≤ gi) (p3 : 0 ≤ sz) (hmd : 0 ≤ md ∧ md ≤ 4095) (hk : (k = 1 ∧ ty = 48) ∨ (k = 2 ∧ ty = 49) ∨ (k = 3 ∧ ty = 50) ∨ (k = 4 ∧ ty = 53))
    (hlk : Lk k lk) (hsz : k ≠ 1 → sz = 0) (e1 : isE nm = false) (e2 : isE un = false) (e3 : isE gn = false) (hl47 : hp.size ≤ 140737488355328 ∧ hn.size ≤ 140737488355328) (hxn : nm.size ≤ 9223372036854775807) (hsx : Sx fm k nm) :
    Calls Tryd.prog 13 #[.agg #[.int .i64 fm, .string hn, .string hl, .string hp, .string hu, .string hg, .int .u8 ty, .int .i64 md, .int .i64 hi, .int .i64 hj, .int .i64 hs, .int .i64 ht], .agg #[.slice none 0 0, .slice (some ⟨gL, 0, none⟩) 8 8, .string ⟨#[111, 116, 104, 101, 114]⟩, .string ⟨#[111, 116, 104, 101, 114]⟩]] w fun e w' => e = .returned (.tuple #[.agg #[.string nm, .string lk, .int .i64 k, .int .i64 md, .int .i64 ui, .int .i64 gi, .int .i64 mt, .int .i64 sz, .string un, .string gn], .int .i64 0]) ∧ Below w.heap.size w w' := by
  have hg0 : gL < w.heap.size := by
    rcases Nat.lt_or_ge gL w.heap.size with h | h
    · exact h
    · rw [Array.getElem?_eq_none h] at hL; cases hL
  have hL' : ∀ w', Below w.heap.size w w' → w'.heap[gL]? = some (.cells #[.string ⟨#[112, 97, 116, 104]⟩, .string nm, .string ⟨#[108, 105, 110, 107, 112, 97, 116, 104]⟩, .string lk, .string ⟨#[117, 110, 97, 109, 101]⟩, .string un, .string ⟨#[103, 110, 97, 109, 101]⟩, .string gn, .string ⟨#[117, 105, 100]⟩, .string ⟨(itoa ui).toArray⟩, .string ⟨#[103, 105, 100]⟩, .string ⟨(itoa gi).toArray⟩, .string ⟨#[115, 105, 122, 101]⟩, .string ⟨(itoa sz).toArray⟩, .string ⟨#[109, 116, 105, 109, 101]⟩, .string ⟨(itoa mt).toArray⟩] 50 (0, 0)) := fun w' hb => (hb.block gL hg0).trans hL
  have tv : ∀ (i : Nat) (hi : i < 8) (v dfl fb : ByteArray) (hv : (#[.string ⟨#[112, 97, 116, 104]⟩, .string nm, .string ⟨#[108, 105, 110, 107, 112, 97, 116, 104]⟩, .string lk, .string ⟨#[117, 110, 97, 109, 101]⟩, .string un, .string ⟨#[103, 110, 97, 109, 101]⟩, .string gn, .string ⟨#[117, 105, 100]⟩, .string ⟨(itoa ui).toArray⟩, .string ⟨#[103, 105, 100]⟩, .string ⟨(itoa gi).toArray⟩, .string ⟨#[115, 105, 122, 101]⟩, .string ⟨(itoa sz).toArray⟩, .string ⟨#[109, 116, 105, 109, 101]⟩, .string ⟨(itoa mt).toArray⟩] : Array Value)[i * 2 + 1]? = some (.string v)) (he : isE v = false) (w' : World), Below w.heap.size w w' → Calls Tryd.prog 22 #[.agg #[.slice none 0 0, .slice (some ⟨gL, 0, none⟩) 8 8, .string ⟨#[111, 116, 104, 101, 114]⟩, .string ⟨#[111, 116, 104, 101, 114]⟩], .string (keys i), .string dfl, .string fb] w' fun e w'' => e = .returned (.string v) ∧ Below w'.heap.size w' w'' :=
    fun i hi v dfl fb hv he w' hb => text_v w' _ _ dfl fb gL 8 8 i keys v (by omega) hi (Nat.lt_of_lt_of_le hg0 hb.size) (key_cell (hL' w' hb)) (val_cell (hL' w' hb) _ _ hv) (fun j hj hij => keys_ne i hi j hj hij) he
  have nv : ∀ (i : Nat) (hi : i < 8) (x m : Int) (hx : -9223372036854775808 ≤ x ∧ x ≤ 9223372036854775807) (hv : (#[.string ⟨#[112, 97, 116, 104]⟩, .string nm, .string ⟨#[108, 105, 110, 107, 112, 97, 116, 104]⟩, .string lk, .string ⟨#[117, 110, 97, 109, 101]⟩, .string un, .string ⟨#[103, 110, 97, 109, 101]⟩, .string gn, .string ⟨#[117, 105, 100]⟩, .string ⟨(itoa ui).toArray⟩, .string ⟨#[103, 105, 100]⟩, .string ⟨(itoa gi).toArray⟩, .string ⟨#[115, 105, 122, 101]⟩, .string ⟨(itoa sz).toArray⟩, .string ⟨#[109, 116, 105, 109, 101]⟩, .string ⟨(itoa mt).toArray⟩] : Array Value)[i * 2 + 1]? = some (.string ⟨(itoa x).toArray⟩)) (w' : World), Below w.heap.size w w' → Calls Tryd.prog 24 #[.agg #[.slice none 0 0, .slice (some ⟨gL, 0, none⟩) 8 8, .string ⟨#[111, 116, 104, 101, 114]⟩, .string ⟨#[111, 116, 104, 101, 114]⟩], .string (keys i), .int .i64 m] w' fun e w'' => e = .returned (.tuple #[.int .i64 x, .int .i64 0]) ∧ Below w'.heap.size w' w'' :=
    fun i hi x m hx hv w' hb => number_l w' (hT.below hb) _ _ m x hx.1 hx.2 gL 8 8 i keys (by omega) hi (Nat.lt_of_lt_of_le hg0 hb.size) (key_cell (hL' w' hb)) (val_cell (hL' w' hb) _ _ hv) (fun j hj hij => keys_ne i hi j hj hij)
  have main : ∀ xl lk' : ByteArray, (∀ w' : World, Below w.heap.size w w' → Calls Tryd.prog 22 #[.agg #[.slice none 0 0, .slice (some ⟨gL, 0, none⟩) 8 8, .string ⟨#[111, 116, 104, 101, 114]⟩, .string ⟨#[111, 116, 104, 101, 114]⟩], .string (keys 1), .string ⟨#[111, 116, 104, 101, 114]⟩, .string hl] w' fun e w'' => e = .returned (.string xl) ∧ Below w'.heap.size w' w'') → ((k = 2 ∨ k = 3 → lk' = xl) ∧ (k ≠ 2 → k ≠ 3 → lk' = ⟨#[]⟩)) →
      Calls Tryd.prog 13 #[.agg #[.int .i64 fm, .string hn, .string hl, .string hp, .string hu, .string hg, .int .u8 ty, .int .i64 md, .int .i64 hi, .int .i64 hj, .int .i64 hs, .int .i64 ht], .agg #[.slice none 0 0, .slice (some ⟨gL, 0, none⟩) 8 8, .string ⟨#[111, 116, 104, 101, 114]⟩, .string ⟨#[111, 116, 104, 101, 114]⟩]] w fun e w' => e = .returned (.tuple #[.agg #[.string nm, .string lk', .int .i64 k, .int .i64 md, .int .i64 ui, .int .i64 gi, .int .i64 mt, .int .i64 sz, .string un, .string gn], .int .i64 0]) ∧ Below w.heap.size w w' := fun xl lk' h2 hlk' =>
    make_ w fm ty md hi hj hs ht hn hl hp hu hg none (some ⟨gL, 0, none⟩) 0 0 8 8 ⟨#[111, 116, 104, 101, 114]⟩ ⟨#[111, 116, 104, 101, 114]⟩ k sz ui gi mt sz nm xl un gn lk' hlk' ⟨fun _ => rfl, hsz⟩ p3 p1 p2 hxn hsx hk hmd hl47
      (fun w' fb hb _ => tv 0 (by decide) nm _ fb rfl e1 w' hb) h2 (fun w' hb => tv 2 (by decide) un _ hu rfl e2 w' hb) (fun w' hb => tv 3 (by decide) gn _ hg rfl e3 w' hb)
      (fun w' hb => nv 6 (by decide) sz hs bsz rfl w' hb) (fun w' hb => nv 4 (by decide) ui hi bui rfl w' hb) (fun w' hb => nv 5 (by decide) gi hj bgi rfl w' hb) (fun w' hb => nv 7 (by decide) mt ht bmt rfl w' hb)
  rcases hlk with ⟨h, he⟩ | ⟨⟨h2, h3⟩, rfl⟩
  · exact main lk lk (fun w' hb => tv 1 (by decide) lk _ hl rfl he w' hb) ⟨fun _ => rfl, fun a b => by rcases h with h | h <;> contradiction⟩
  · exact main ⟨#[111, 116, 104, 101, 114]⟩ ⟨#[]⟩ (fun w' hb => text_o w' _ _ ⟨#[111, 116, 104, 101, 114]⟩ hl gL 8 8 1 keys ⟨#[]⟩ (by omega) (by omega) (Nat.lt_of_lt_of_le hg0 hb.size) (key_cell (hL' w' hb)) (val_cell (hL' w' hb) _ _ rfl) (fun j hj hij => keys_ne 1 (by omega) j hj hij) emp oth) ⟨fun a => by rcases a with a | a <;> contradiction, fun _ _ => rfl⟩

theorem make3 (w : World) (nm lk un gn : ByteArray) (md ui gi mt sz ty k : Int) (p1 : 0 ≤ ui) (p2 : 0 ≤ gi) (p3 : 0 ≤ sz) (hmd : 0 ≤ md ∧ md ≤ 4095) (hk : (k = 1 ∧ ty = 48) ∨ (k = 2 ∧ ty = 49) ∨ (k = 3 ∧ ty = 50) ∨ (k = 4 ∧ ty = 53))
    (hlk : Lk k lk) (hsz : k ≠ 1 → sz = 0) (hn47 : nm.size ≤ 140737488355328) :
    Calls Tryd.prog 13 #[.agg #[.int .i64 1, .string nm, .string lk, .string ⟨#[]⟩, .string un, .string gn, .int .u8 ty, .int .i64 md, .int .i64 ui, .int .i64 gi, .int .i64 sz, .int .i64 mt], .agg #[.slice none 0 0, .slice none 0 0, .string ⟨#[]⟩, .string ⟨#[]⟩]] w fun e w' => e = .returned (.tuple #[.agg #[.string nm, .string lk, .int .i64 k, .int .i64 md, .int .i64 ui, .int .i64 gi, .int .i64 mt, .int .i64 sz, .string un, .string gn], .int .i64 0]) ∧ Below w.heap.size w w' :=
  make_ w 1 ty md ui gi sz mt nm lk ⟨#[]⟩ un gn none none 0 0 0 0 ⟨#[]⟩ ⟨#[]⟩ k sz ui gi mt sz nm lk un gn lk (by
      rcases hlk with ⟨h, he⟩ | ⟨⟨h2, h3⟩, h⟩
      · exact ⟨fun _ => rfl, fun a b => by rcases h with h | h <;> contradiction⟩
      · exact ⟨fun _ => rfl, fun _ _ => h⟩) ⟨fun _ => rfl, hsz⟩ p3 p1 p2 (by omega) (fun h => absurd h (by decide)) hk hmd ⟨by decide, hn47⟩
    (fun w' fb _ h => by rw [h emp]; exact text_nil w' _ _ _ _ _ emp)
    (fun w' _ => text_nil w' _ _ _ _ _ emp) (fun w' _ => text_nil w' _ _ _ _ _ emp) (fun w' _ => text_nil w' _ _ _ _ _ emp)
    (fun w' _ => number_nil w' _ _ _ _) (fun w' _ => number_nil w' _ _ _ _) (fun w' _ => number_nil w' _ _ _ _) (fun w' _ => number_nil w' _ _ _ _)
theorem make1 (w : World) : Calls Tryd.prog 13 #[.agg #[.int .i64 0, .string ⟨#[97]⟩, .string ⟨#[]⟩, .string ⟨#[]⟩, .string ⟨#[]⟩, .string ⟨#[]⟩, .int .u8 53, .int .i64 0, .int .i64 0, .int .i64 0, .int .i64 0, .int .i64 0], .agg #[.slice none 0 0, .slice none 0 0, .string ⟨#[]⟩, .string ⟨#[]⟩]] w fun e w' => e = .returned (.tuple #[.agg #[.string ⟨#[97]⟩, .string ⟨#[]⟩, .int .i64 4, .int .i64 0, .int .i64 0, .int .i64 0, .int .i64 0, .int .i64 0, .string ⟨#[]⟩, .string ⟨#[]⟩], .int .i64 0]) ∧ Below w.heap.size w w' :=
  make_ w 0 53 0 0 0 0 0 ⟨#[97]⟩ ⟨#[]⟩ ⟨#[]⟩ ⟨#[]⟩ ⟨#[]⟩ none none 0 0 0 0 ⟨#[]⟩ ⟨#[]⟩ 4 0 0 0 0 0 ⟨#[97]⟩ ⟨#[]⟩ ⟨#[]⟩ ⟨#[]⟩ ⟨#[]⟩ ⟨fun _ => rfl, fun _ _ => rfl⟩ ⟨fun _ => rfl, fun _ => rfl⟩ (by decide) (by decide) (by decide) (by decide) (fun _ h => absurd h (by decide)) (by decide) (by decide) (by decide)
    (fun w' fb _ h => by rw [h emp]; exact text_nil w' _ _ _ _ _ emp)
    (fun w' _ => text_nil w' _ _ _ _ _ emp) (fun w' _ => text_nil w' _ _ _ _ _ emp) (fun w' _ => text_nil w' _ _ _ _ _ emp)
    (fun w' _ => number_nil w' _ _ _ _) (fun w' _ => number_nil w' _ _ _ _) (fun w' _ => number_nil w' _ _ _ _) (fun w' _ => number_nil w' _ _ _ _)
theorem row50 : RowTy Tryd.prog 50 2 := .of (by kernel_rfl)
theorem sl44 : SlTy Tryd.prog 44 50 2 32 (.agg #[.string ⟨#[]⟩, .string ⟨#[]⟩]) := ⟨by kernel_rfl, by kernel_rfl⟩
theorem cf14 : ∀ (vs : Array Value) (w : World), (callFunc 14 vs).run Tryd.prog w = .ok (.enter 14 vs) w := fun vs w => by kernel_rfl
theorem cf15 : ∀ (vs : Array Value) (w : World), (callFunc 15 vs).run Tryd.prog w = .ok (.enter 15 vs) w := fun vs w => by kernel_rfl
section
variable {P : Program} {ops : Array Oper} {Q : Exit → Act → World → Prop} {a : Act} {w : World} {o : Oper} {R : Act → World → Prop}
/-- A call through a value. -/
theorem call_tmp {f : FuncId} {t : Nat} {args : Array Operand} {tys : Array TypeId} {C : Ending → World → Prop} (hop : o.op = .call { callee := .value (.tmp t), args := args, argTypes := tys }) (hw : Region.wanted o (yielded ops a.tmps) = true)
    (he : a.eval (.tmp t) = .func (.func f) #[] #[])
    (hf : ∀ (vs : Array Value) (w : World), (callFunc f vs).run P w = .ok (.enter f vs) w) {vs : Array Value}
    (hc : Calls P f vs w C) (hvs : args.map a.eval = vs) (h : ∀ e w', C e w' → ∃ v, e = .returned v ∧ R (a.put o.dst v) w') : WPK P ops Q R o a w :=
  wanted hw fun K hK => by
    subst hvs
    unfold Oper.wp
    have hrun : (execOp a.eval o).run P w = .ok (.enter f (args.map a.eval)) w := by
      simp [execOp, hop, resolve, invoke, he, Deferred.ofValue, hf]
    rw [hrun]
    simp only [Oper.upon]
    refine hc.mono fun e w' he => ?_
    obtain ⟨v, rfl, hr⟩ := h e w' he
    exact hK _ _ hr
end
end Go.Proofs.YtfpfdnckibaldaaDoor.Z
