/- For every limits: which limits may be is the answer of the document. No condition. -/
import Derived.Test.YtpdelappcgmadaaQB
set_option linter.unusedSimpArgs false
namespace Go.Proofs.Ytpdelappcgmadaa.QChecks
open Go.RowKit Go.Proofs.Ytpdelappcgmadaa.PQuotaRatios Go.Proofs.Ytpdelappcgmadaa.M Go.Proofs.Ytpdelappcgmadaa.QB Go.Proofs.YtpdelappcgmadaaW.PrintWords Go.Proofs.YtpdelappcgmadaaW.PrintLast Go.Proofs.YtpdelappcgmadaaW.PrintMore

set_option maxHeartbeats 2000000 in
theorem checks_yes (w0 w : World) (hM : Mem w0 w [] []) (l0 l1 l2 l3 l4 l5 l6 : Int) (hg : Hid (pannierlaw15_good.f l0 l1 l2 l3 l4 l5 l6 = some true)) (hc : Hid (quota_Check.f 6 l0 l1 l2 l3 l4 l5 l6 = some 0)) (hn : Hid (quota_New.f 6 l0 l1 l2 l3 l4 l5 l6 = some (l0, l1, l2, l3, l4, l5, l6, 0, 0, 0, 0, 0))) :
    Calls Try.prog 13 #[.agg #[.int .i64 l0, .int .i64 l1, .int .i64 l2, .int .i64 l3, .int .i64 l4, .int .i64 l5, .int .i64 l6]] w (Yes w0) := by
  go_enter Try.func13, Try.ntmps13
  go_wp2_with (first
    | ((with_reducible refine wpl ?_); apply al_box (hM := hM); rfl; (first | exact want_none rfl | exact want_some rfl rfl rfl rfl); (first | (focus (go_simp; done)) | (focus (go_simp; rfl))); intro g1 w1 hM1; clear hM; dsimp only [Value.cells] at hM1; have hM := hM1; clear hM1; simp only [Act.put, List.setIfInBounds_toArray, List.set_cons_zero, List.set_cons_succ])
    | ((with_reducible refine wpl ?_); apply al_zero (hM := hM); rfl; (first | exact want_none rfl | exact want_some rfl rfl rfl rfl); (first | exact zero32 | exact zero29); intro g1 w1 hM1; clear hM; dsimp only [Value.cells] at hM1; have hM := hM1; clear hM1; simp only [Act.put, List.setIfInBounds_toArray, List.set_cons_zero, List.set_cons_succ])
    | ((with_reducible refine wpl ?_); apply ld_row (hM := hM); rfl; (first | exact want_none rfl | exact want_some rfl rfl rfl rfl); rfl; (first | exact .head _ _ | exact .tail (.head _ _) | exact .tail (.tail (.head _ _)) | exact .tail (.tail (.tail (.head _ _))) | exact .tail (.tail (.tail (.tail (.head _ _)))) | exact .tail (.tail (.tail (.tail (.tail (.head _ _))))) | exact .tail (.tail (.tail (.tail (.tail (.tail (.head _ _)))))) | exact .tail (.tail (.tail (.tail (.tail (.tail (.tail (.head _ _)))))))); (first | exact row29 | exact row32); simp only [Act.put, List.setIfInBounds_toArray, List.set_cons_zero, List.set_cons_succ])
    | ((with_reducible refine wpl ?_); apply st_row (hM := hM); rfl; (first | exact want_none rfl | exact want_some rfl rfl rfl rfl); rfl; (first | (focus (go_simp; done)) | (focus (go_simp; rfl))); (first | exact .head _ _ | exact .tail (.head _ _) | exact .tail (.tail (.head _ _)) | exact .tail (.tail (.tail (.head _ _))) | exact .tail (.tail (.tail (.tail (.head _ _)))) | exact .tail (.tail (.tail (.tail (.tail (.head _ _))))) | exact .tail (.tail (.tail (.tail (.tail (.tail (.head _ _)))))) | exact .tail (.tail (.tail (.tail (.tail (.tail (.tail (.head _ _)))))))); rfl; rfl; (first | exact row29 | exact row32); intro w1 hM1; clear hM; (try simp only [List.setIfInBounds_toArray, List.set_cons_zero, List.set_cons_succ] at hM1); have hM := hM1; clear hM1; simp only [Act.put, List.setIfInBounds_toArray, List.set_cons_zero, List.set_cons_succ])
    | ((with_reducible refine wpl ?_); apply ld_one (hM := hM); rfl; (first | exact want_none rfl | exact want_some rfl rfl rfl rfl); rfl; (first | exact .head _ _ | exact .tail (.head _ _) | exact .tail (.tail (.head _ _)) | exact .tail (.tail (.tail (.head _ _))) | exact .tail (.tail (.tail (.tail (.head _ _)))) | exact .tail (.tail (.tail (.tail (.tail (.head _ _))))) | exact .tail (.tail (.tail (.tail (.tail (.tail (.head _ _)))))) | exact .tail (.tail (.tail (.tail (.tail (.tail (.tail (.head _ _)))))))); (first | (focus (simp only [List.getElem?_toArray, List.getElem?_cons_zero, List.getElem?_cons_succ]; rfl)) | rfl); (first | exact one2 | exact one3); simp only [Act.put, List.setIfInBounds_toArray, List.set_cons_zero, List.set_cons_succ])
    | ((with_reducible refine wpl ?_); apply st_cell (hM := hM); rfl; (first | exact want_none rfl | exact want_some rfl rfl rfl rfl); rfl; (first | (focus (go_simp; done)) | (focus (go_simp; rfl))); (first | exact .head _ _ | exact .tail (.head _ _) | exact .tail (.tail (.head _ _)) | exact .tail (.tail (.tail (.head _ _))) | exact .tail (.tail (.tail (.tail (.head _ _)))) | exact .tail (.tail (.tail (.tail (.tail (.head _ _))))) | exact .tail (.tail (.tail (.tail (.tail (.tail (.head _ _)))))) | exact .tail (.tail (.tail (.tail (.tail (.tail (.tail (.head _ _)))))))); (focus (simp; done)); rfl; (first | exact one2 | exact one3); intro w1 hM1; clear hM; (try simp only [List.setIfInBounds_toArray, List.set_cons_zero, List.set_cons_succ] at hM1); have hM := hM1; clear hM1; simp only [Act.put, List.setIfInBounds_toArray, List.set_cons_zero, List.set_cons_succ])
    | (go_at_call 19; (with_reducible refine (counts_mem _ _ (Mem.start _)).mono ?_); rintro e w3 ⟨rfl, hb⟩; replace hM := hM.step hb; clear hb)
    | (go_at_call 20; (with_reducible refine (quota_New.calls 6 l0 l1 l2 l3 l4 l5 l6 l0 l1 l2 l3 l4 l5 l6 0 0 0 0 0 _ hn.out).mono ?_); rintro e w3 ⟨rfl, hb⟩; replace hM := hM.step hb; clear hb))
  haveI hne : Nonempty (MW w0 [] _) := ⟨⟨_, hM⟩⟩
  refine wp_region_mem (by kernel_rfl) (by kernel_rfl) hM ?_
  repeat (first
    | go_big_quiet_skip
    | (go_big_quiet_want
       first
       | (apply q_row; rfl; rfl; (first | exact .head _ _ | exact .tail (.head _ _) | exact .tail (.tail (.head _ _)) | exact .tail (.tail (.tail (.head _ _))) | exact .tail (.tail (.tail (.tail (.head _ _))))); (first | exact row29 | exact row32); simp only [Act.put, List.setIfInBounds_toArray, List.set_cons_zero, List.set_cons_succ]; go_big_quiet_on)
       | (go_big_quiet_op
          first
          | go_big_quiet_on
          | go_big_quiet_call ((first | (go_at_call 22; exact quiet_call (quota_Check.calls 6 l0 l1 l2 l3 l4 l5 l6 0 _ hc.out)) | (go_at_call 21; exact quiet_call (pannierlaw15_good.calls l0 l1 l2 l3 l4 l5 l6 true _ hg.out)))))))
  refine wpQuiet_nil ?_
  intro wq hMq
  clear hne hM
  have hM := hMq
  clear hMq
  go_wp2
  go_ret
  exact ⟨rfl, hM.below⟩

set_option maxHeartbeats 2000000 in
theorem checks_no (w0 w : World) (hM : Mem w0 w [] []) (l0 l1 l2 l3 l4 l5 l6 : Int) (hg : Hid (pannierlaw15_good.f l0 l1 l2 l3 l4 l5 l6 = some false)) (hc : Hid (quota_Check.f 6 l0 l1 l2 l3 l4 l5 l6 = some 1)) (hn : Hid (quota_New.f 6 l0 l1 l2 l3 l4 l5 l6 = some (0, 0, 0, 0, 0, 0, 0, 0, 0, 0, 0, 1))) :
    Calls Try.prog 13 #[.agg #[.int .i64 l0, .int .i64 l1, .int .i64 l2, .int .i64 l3, .int .i64 l4, .int .i64 l5, .int .i64 l6]] w (Yes w0) := by
  go_enter Try.func13, Try.ntmps13
  go_wp2_with (first
    | ((with_reducible refine wpl ?_); apply al_box (hM := hM); rfl; (first | exact want_none rfl | exact want_some rfl rfl rfl rfl); (first | (focus (go_simp; done)) | (focus (go_simp; rfl))); intro g1 w1 hM1; clear hM; dsimp only [Value.cells] at hM1; have hM := hM1; clear hM1; simp only [Act.put, List.setIfInBounds_toArray, List.set_cons_zero, List.set_cons_succ])
    | ((with_reducible refine wpl ?_); apply al_zero (hM := hM); rfl; (first | exact want_none rfl | exact want_some rfl rfl rfl rfl); (first | exact zero32 | exact zero29); intro g1 w1 hM1; clear hM; dsimp only [Value.cells] at hM1; have hM := hM1; clear hM1; simp only [Act.put, List.setIfInBounds_toArray, List.set_cons_zero, List.set_cons_succ])
    | ((with_reducible refine wpl ?_); apply ld_row (hM := hM); rfl; (first | exact want_none rfl | exact want_some rfl rfl rfl rfl); rfl; (first | exact .head _ _ | exact .tail (.head _ _) | exact .tail (.tail (.head _ _)) | exact .tail (.tail (.tail (.head _ _))) | exact .tail (.tail (.tail (.tail (.head _ _)))) | exact .tail (.tail (.tail (.tail (.tail (.head _ _))))) | exact .tail (.tail (.tail (.tail (.tail (.tail (.head _ _)))))) | exact .tail (.tail (.tail (.tail (.tail (.tail (.tail (.head _ _)))))))); (first | exact row29 | exact row32); simp only [Act.put, List.setIfInBounds_toArray, List.set_cons_zero, List.set_cons_succ])
    | ((with_reducible refine wpl ?_); apply st_row (hM := hM); rfl; (first | exact want_none rfl | exact want_some rfl rfl rfl rfl); rfl; (first | (focus (go_simp; done)) | (focus (go_simp; rfl))); (first | exact .head _ _ | exact .tail (.head _ _) | exact .tail (.tail (.head _ _)) | exact .tail (.tail (.tail (.head _ _))) | exact .tail (.tail (.tail (.tail (.head _ _)))) | exact .tail (.tail (.tail (.tail (.tail (.head _ _))))) | exact .tail (.tail (.tail (.tail (.tail (.tail (.head _ _)))))) | exact .tail (.tail (.tail (.tail (.tail (.tail (.tail (.head _ _)))))))); rfl; rfl; (first | exact row29 | exact row32); intro w1 hM1; clear hM; (try simp only [List.setIfInBounds_toArray, List.set_cons_zero, List.set_cons_succ] at hM1); have hM := hM1; clear hM1; simp only [Act.put, List.setIfInBounds_toArray, List.set_cons_zero, List.set_cons_succ])
    | ((with_reducible refine wpl ?_); apply ld_one (hM := hM); rfl; (first | exact want_none rfl | exact want_some rfl rfl rfl rfl); rfl; (first | exact .head _ _ | exact .tail (.head _ _) | exact .tail (.tail (.head _ _)) | exact .tail (.tail (.tail (.head _ _))) | exact .tail (.tail (.tail (.tail (.head _ _)))) | exact .tail (.tail (.tail (.tail (.tail (.head _ _))))) | exact .tail (.tail (.tail (.tail (.tail (.tail (.head _ _)))))) | exact .tail (.tail (.tail (.tail (.tail (.tail (.tail (.head _ _)))))))); (first | (focus (simp only [List.getElem?_toArray, List.getElem?_cons_zero, List.getElem?_cons_succ]; rfl)) | rfl); (first | exact one2 | exact one3); simp only [Act.put, List.setIfInBounds_toArray, List.set_cons_zero, List.set_cons_succ])
    | ((with_reducible refine wpl ?_); apply st_cell (hM := hM); rfl; (first | exact want_none rfl | exact want_some rfl rfl rfl rfl); rfl; (first | (focus (go_simp; done)) | (focus (go_simp; rfl))); (first | exact .head _ _ | exact .tail (.head _ _) | exact .tail (.tail (.head _ _)) | exact .tail (.tail (.tail (.head _ _))) | exact .tail (.tail (.tail (.tail (.head _ _)))) | exact .tail (.tail (.tail (.tail (.tail (.head _ _))))) | exact .tail (.tail (.tail (.tail (.tail (.tail (.head _ _)))))) | exact .tail (.tail (.tail (.tail (.tail (.tail (.tail (.head _ _)))))))); (focus (simp; done)); rfl; (first | exact one2 | exact one3); intro w1 hM1; clear hM; (try simp only [List.setIfInBounds_toArray, List.set_cons_zero, List.set_cons_succ] at hM1); have hM := hM1; clear hM1; simp only [Act.put, List.setIfInBounds_toArray, List.set_cons_zero, List.set_cons_succ])
    | (go_at_call 19; (with_reducible refine (counts_mem _ _ (Mem.start _)).mono ?_); rintro e w3 ⟨rfl, hb⟩; replace hM := hM.step hb; clear hb)
    | (go_at_call 20; (with_reducible refine (quota_New.calls 6 l0 l1 l2 l3 l4 l5 l6 0 0 0 0 0 0 0 0 0 0 0 1 _ hn.out).mono ?_); rintro e w3 ⟨rfl, hb⟩; replace hM := hM.step hb; clear hb))
  haveI hne : Nonempty (MW w0 [] _) := ⟨⟨_, hM⟩⟩
  refine wp_region_mem (by kernel_rfl) (by kernel_rfl) hM ?_
  repeat (first
    | go_big_quiet_skip
    | (go_big_quiet_want
       first
       | (apply q_row; rfl; rfl; (first | exact .head _ _ | exact .tail (.head _ _) | exact .tail (.tail (.head _ _)) | exact .tail (.tail (.tail (.head _ _))) | exact .tail (.tail (.tail (.tail (.head _ _))))); (first | exact row29 | exact row32); simp only [Act.put, List.setIfInBounds_toArray, List.set_cons_zero, List.set_cons_succ]; go_big_quiet_on)
       | (go_big_quiet_op
          first
          | go_big_quiet_on
          | go_big_quiet_call ((first | (go_at_call 22; exact quiet_call (quota_Check.calls 6 l0 l1 l2 l3 l4 l5 l6 1 _ hc.out)) | (go_at_call 21; exact quiet_call (pannierlaw15_good.calls l0 l1 l2 l3 l4 l5 l6 false _ hg.out)))))))
  refine wpQuiet_nil ?_
  intro wq hMq
  clear hne hM
  have hM := hMq
  clear hMq
  go_wp2
  go_ret
  exact ⟨rfl, hM.below⟩

theorem walk (l0 l1 l2 l3 l4 l5 l6 : Int) (w : World) : Calls Try.prog 13 #[.agg #[.int .i64 l0, .int .i64 l1, .int .i64 l2, .int .i64 l3, .int .i64 l4, .int .i64 l5, .int .i64 l6]] w (Yes w) := by
  by_cases h : LGood l0 l1 l2 l3 l4 l5 l6
  · exact checks_yes w w (Mem.start w) l0 l1 l2 l3 l4 l5 l6 (hid_ (good_yes h)) (hid_ (check_yes h)) (hid_ (new_yes h))
  · exact checks_no w w (Mem.start w) l0 l1 l2 l3 l4 l5 l6 (hid_ (good_no h)) (hid_ (check_no h)) (hid_ (new_no h))

end Go.Proofs.Ytpdelappcgmadaa.QChecks
