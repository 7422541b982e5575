/- For every entry and every header, the law of the whole entry returns true and what came in reads as before. Condition: the library's own tables and errors read as the program's text lays them. -/
import Derived.Test.YtfpfdnckibaldaaDoorRows
import Derived.Test.YtfpfdnckibaldaaDoorTie
import Derived.Test.YtfpfdnckibaldaaDoorCards
import Derived.Test.YtfpfdnckibaldaaDoorEw
import Derived.Test.YtfpfdnckibaldaaDoorEo
import Derived.ChangeSame
import Derived.ChangeVars
import Derived.JoinedOf
import Derived.RowKit
import Derived.RowKitTokens
import Derived.LaidLaws
import Derived.LaidMore
import Derived.LaidHandle
import Derived.Stop.Joined
import Derived.SevenTiedAt
import Derived.WalkKit
import Derived.ProofKit
import Derived.OpenShut
import Derived.ChangeOld
import Derived.Below
import Derived.SizedLaws
import Derived.Carry
import Derived.Lib.LaidTab
namespace Go.Proofs.YtfpfdnckibaldaaDoor.wholeEntry
open Go.ChangeShapes Go.WideShapes Go.ChangeAt Go.RowKit
set_option linter.unusedVariables false
theorem own : ownKnob Tryd.prog.godebug = none := by kernel_rfl
theorem laidOut : laidOutB Tryd.prog = true := by kernel_rfl
theorem g3 : Tryd.prog.globalNamed "internal/strconv.uint64pow10" = some 3 := by kernel_rfl
theorem t3 : (Tryd.prog.globals[3]?).map (·.type) = some 130 := by kernel_rfl
theorem uA : Tryd.prog.underlying 130 = some (.array 20 110) := by kernel_rfl
theorem uE : Tryd.prog.underlying 110 = some (.int .u64) := by kernel_rfl

theorem of_laid {W : World} (h : laidMetH Tryd.prog Rows.wholeEntryRow.laid W) : B.Tab W := by
  rw [MakeChecks.laidMetH_plain _ _ _ (by kernel_rfl)] at h
  obtain ⟨ps, ⟨_, _, _, _, _, _, _, _, _, _, ⟨_, _, _, _, _, _, _, _, _, _, ⟨g2, t2, cs2, f2, p2, q2, hg2, ht2, hv2, hd2, _, _⟩, _⟩, _⟩, _, _⟩ := h
  obtain rfl := Option.some.inj (g3.symm.trans hg2)
  obtain rfl := Option.some.inj (t3.symm.trans ht2)
  unfold B.Tab Lib.TabIs
  rw [hv2, ← Lib.cells_of_tab uA uE (by kernel_rfl) (by kernel_rfl) hd2]

theorem door_met (os : Os) (args : Array Value) : laidMetH Tryd.prog Rows.wholeEntryRow.laid ((World.doorLaid Tryd.prog 4000 os).forCall (fun _ _ => 0) ⟨#[], args, []⟩).memory :=
  laidMetH_of_parts3 (fuel := 30) (laidMet_of_run' 30 (by kernel_rfl) (by kernel_rfl)) (by kernel_rfl) (by kernel_rfl)

set_option maxRecDepth 100000 in
theorem lifted (os : Os) (started : os.Started) (H : Type) (enc : TypeId × Value → H) :
    ReturnsInHanded {} Tryd.checked os 4 .any (fun w args => (Rows.wholeEntrySpec.pre enc Tryd.prog Tryd.f4 [] false w args ∧ laidMetH Tryd.prog Rows.wholeEntryRow.laid w) ∧ sizedMet enc Tryd.prog Tryd.f4 (OpenSpec.ofChange Rows.wholeEntrySpec) false w args)
      (Rows.wholeEntrySpec.post enc Tryd.prog Tryd.f4 false true false false) := by
  refine returnsInHanded_of_change_and (C := Tryd.checked) (X := fun w _ => laidMetH Tryd.prog Rows.wholeEntryRow.laid w) (fun _ _ _ hh h => h.of_heap hh) own started (by kernel_rfl) Tryd.func4
    (ChangeSpec.witness_shaped (enc := enc) (C := Tryd.checked) (os := os) (X := fun w _ => laidMetH Tryd.prog Rows.wholeEntryRow.laid w) false (World.doorLaid Tryd.prog 4000 os) #[.agg #[.string ⟨#[]⟩, .string ⟨#[]⟩, .int .i64 0, .int .i64 0, .int .i64 0, .int .i64 0, .int .i64 0, .int .i64 0, .string ⟨#[]⟩, .string ⟨#[]⟩], .agg #[.int .i64 0, .string ⟨#[]⟩, .string ⟨#[]⟩, .string ⟨#[]⟩, .string ⟨#[]⟩, .string ⟨#[]⟩, .int .u8 0, .int .i64 0, .int .i64 0, .int .i64 0, .int .i64 0, .int .i64 0]] 8 rfl (World.shaped_of_RefB (by kernel_rfl) (by kernel_rfl)) (by kernel_rfl) (by kernel_rfl) (by kernel_rfl) (door_met os _)) ?_
  intro W base args ds gs before hval0 hW _ hsz0 hL _
  have hsz : (DataW.weightsEach Tryd.prog (Tryd.f4.params.toList ++ Rows.wholeEntrySpec.plain.varTypes Tryd.prog) (ds ++ gs)).all (· ≤ reachBytes) = true := hsz0
  have hval : ∀ (j : Nat) t v, Tryd.f4.params[j]? = some t → args[j]? = some v → Value.okWide Tryd.prog W .any base t v := hval0
  have hW' := hW
  obtain ⟨p, q, hA0, hV, rfl, hfz, hnd⟩ := hW
  have hA : DataW.TrodAll enc Tryd.prog W 0 (fun _ => true) true Tryd.f4.params.toList args.toList ds p := hA0
  rw [Tryd.params4] at hA hval hsz
  obtain ⟨v0, vs0, d0, ds0, p0, q0, hargs, rfl, rfl, h0, r0⟩ := trodAll_cons hA
  obtain ⟨v1, vs1, d1, ds1, p1, q1, rfl, rfl, rfl, h1, r1⟩ := trodAll_cons r0
  obtain ⟨rfl, rfl, rfl⟩ := trodAll_nil r1
  obtain rfl : args = #[v0, v1] := by cases args; simp_all
  obtain ⟨rfl, rfl⟩ := trodVars_none hV
  have k0 := h0
  have lt0 : ∀ x ∈ p0, x.block < W.heap.size := by obtain ⟨m, hm⟩ := k0; exact DataW.trod_lt m _ _ _ hm
  have k1 := h1
  have lt1 : ∀ x ∈ p1, x.block < W.heap.size := by obtain ⟨m, hm⟩ := k1; exact DataW.trod_lt m _ _ _ hm
  obtain ⟨k, md, ui, gi, mt, sz, nm, lk, un, gn, rfl, rfl, bk, bm, bu, bg, bt, bs⟩ := R.opened_ent (hval 0 39 v0 rfl rfl) h0
  obtain ⟨fm, hm, hi, hj, hs, ht, hn, hl, hp, hu, hg, ty, rfl, rfl, bh⟩ := R.opened_hdr (hval 1 41 v1 rfl rfl) h1
  have z1 := R.ent_sized hsz rfl rfl
  have z2 := R.hdr_sized hsz rfl rfl
  have hr : reachBytes ≤ 140737488355328 := by decide
  have sz_ : ∀ l : List UInt8, l.length ≤ reachBytes → (⟨l.toArray⟩ : ByteArray).size ≤ 140737488355328 := fun l h => by
    have : (⟨l.toArray⟩ : ByteArray).size = l.length := by show l.toArray.size = l.length; simp
    omega
  clear hA0 hval0 hsz0 hsz
  refine (Z.walk W (of_laid hL) ⟨nm.toArray⟩ ⟨lk.toArray⟩ ⟨un.toArray⟩ ⟨gn.toArray⟩ md ui gi mt sz fm (ty.toNat : Int) hm hi hj hs ht ⟨hn.toArray⟩ ⟨hl.toArray⟩ ⟨hp.toArray⟩ ⟨hu.toArray⟩ ⟨hg.toArray⟩ (by omega) (by omega) (by omega) (by omega) ⟨sz_ _ z2.2.2.1, sz_ _ z2.1⟩ (sz_ _ z1.1) k).mono fun e W' ⟨he, bel⟩ => ?_
  subst he
  exact ⟨_, rfl, _, _, _, [], _, [], hW', trodAll_mk1 (shut_bool Tryd.underlying4 _), (trodAll_cons_mk (Below.trod laidOut (by kernel_rfl) (of_decide_eq_true (by kernel_rfl)) k0 bel lt0) (trodAll_cons_mk (Below.trod laidOut (by kernel_rfl) (of_decide_eq_true (by kernel_rfl)) k1 bel lt1) trodAll_mk0)), rfl, bel.frame _, fun h => by cases h⟩

theorem said : Rows.WholeEntrySaid :=
  OpenClaim.holds_of_wide 4 Tryd.f4 rfl rfl rfl rfl rfl rfl rfl ⟨rfl, rfl, rfl, rfl, rfl⟩ rfl rfl rfl rfl rfl (by kernel_rfl) Tryd.func4 (by kernel_rfl)
    (of_decide_eq_true (by kernel_rfl)) (by unfold Func.isWrapper; first | (rw [if_pos (by decide +kernel)]; kernel_rfl) | (rw [if_neg (by decide +kernel)]; exact ⟨rfl, rfl⟩))
    (fun os started H enc _ => lifted os started H enc)

theorem carded : Rows.WholeEntryCardSaid :=
  Claim7.holds_tied_plain_at .later [] [.data, .data, .data, .sentinel, .sentinel] true (true, "f35d9abd2889fbc5c2b74d26b661bccc71594c9c92cc8ce9f853560725e9c421") true
    said (fun _ h => by cases h) (by kernel_rfl) (fun _ h => by cases h) wholeEntry_row_tie rfl ⟨rfl, rfl⟩ (by kernel_rfl) rfl
    (fun f fn hf hfn => by
      obtain rfl : f = 4 := Option.some.inj ((show Tryd.prog.funcNamed "pannier/panniertop.WholeEntry" = some 4 by kernel_rfl).symm.trans hf) |>.symm
      obtain rfl : fn = Tryd.f4 := (Option.some.inj (Tryd.func4.symm.trans hfn)).symm
      exact ⟨by kernel_rfl, fun j t ht => by
        rw [Tryd.params4] at ht
        have h3 : t = 39 ∨ t = 41 := by
          rcases j with _ | _ | j
          · exact .inl (by simpa using ht.symm)
          · exact .inr (by simpa using ht.symm)
          · simp at ht
        rcases h3 with rfl | rfl
        · exact (show Tryd.prog.wantsStandIn 39 = false by kernel_rfl)
        · exact (show Tryd.prog.wantsStandIn 41 = false by kernel_rfl)⟩)
    (by kernel_rfl)
end Go.Proofs.YtfpfdnckibaldaaDoor.wholeEntry
namespace Go.Proofs.YtfpfdnckibaldaaDoor
/-- The card, under a short name, for the claim. -/
theorem wholeEntry_card_holds : Rows.WholeEntryCardSaid := wholeEntry.carded
end Go.Proofs.YtfpfdnckibaldaaDoor
