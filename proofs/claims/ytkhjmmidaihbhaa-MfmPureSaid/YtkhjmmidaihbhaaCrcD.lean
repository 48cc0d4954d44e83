/- What functions that the law reaches compute, on a heap of the run's own: the conditions stand in each theorem. -/
import Derived.Test.YtkhjmmidaihbhaaCrcC
set_option linter.unusedSimpArgs false
set_option linter.unusedVariables false
namespace Go.Proofs.Ytkhjmmidaihbhaa.D
open Go Go.Det

theorem grow_ok (n : Nat) (hn : n ≤ 1000000) (H : AH) (Q : Value → AH → Prop) (hq : ∀ v H', OwnB H.n H' v [] → HExt H H' → Q v H') :
    Got (xc Try.prog tab 63 [.slice none 0 0, .int .i64 (n : Int)] H) Q := by
  refine got_call (res := [.tmp 4]) rfl ?_
  have c1 : ¬ (n : Int) < 0 := by omega
  have w0 : IntKind.i64.wrap (0 - 0) = 0 := rfl
  have w1 := wrI ((n : Int) - 0) (by omega) (by omega)
  have x0 : xslc H 1 (.slice none 0 0) none (some (.int .i64 0)) none = some (.slice none 0 0) := rfl
  by_cases h0 : (n : Int) > 0
  · have c2 : (n : Int) - 0 > 0 := by omega
    simp only [ofArgs, run_seq, run_block, run_ops, run_skip, run_exit, run_ret, thenQ_normal, thenQ_exit, thenQ_ret, blockQ_normal, blockQ_exit, blockQ_ret, retQ_ret, retQ_normal, ops_nil, ops_none, got_some, ops_wT, ops_wTn, ops_wF, ops_wFn, ops_wU, dops_wT, dops_wTn, dops_wF, dops_wFn, dops_wU, run_condT, run_condF, alt2_int, altB_bool, altI_int, altBB_bool, v_min, v_max, v_not, v_neg, optEv_none, optEv_some, isSome'_none, isSome'_some, pExt0, pExt1, pExt2, Bool.false_and, Bool.true_and, Bool.not_true, Bool.not_false, cond_true, cond_false, dops_nil, dops_none, xval_call, v_mov, v_bin, v_len, v_ext, v_idxA, v_ld, v_st, v_app, v_appN, v_cvs, v_bs1, pBs1, v_slc, v_conv, v_fld, v_fldA, v_new, v_box, v_mks, v_copy, v_isnil, v_nilck, v_pick, ev, evs_nil, evs_cons, fr_get_cons, fr_put_nil, fr_put_cons, fr_put_some, fr_put_none, fr_keep_nil, fr_keep_cons, fr_has_nil, fr_has_cons, Option.bind_some, Option.map_some, xbin, ibin, xresult_eq, xress_nil, xress_tmp, resV, ex_some, if_true, if_false, ite_true, ite_false, reduceIte, reduceCtorEq, Nat.reduceEqDiff, Nat.reduceLT, Nat.reduceLeDiff, Int.reduceLT, Int.reduceLE, Nat.zero_add, Nat.reduceAdd, Bool.false_eq_true, decide_eq_true_eq, decide_eq_false_iff_not, true_implies, false_implies, and_true, true_and, v_cap, pCap_nil, pLen, c1, c2, w0, w1, x0, decide_true, decide_false, Int.ofNat_eq_natCast, Int.natCast_zero, Int.cast_ofNat_Int]
    rw [Int.sub_zero]
    refine xappN_own (Own.nil H.n 1 H) (Nat.le_refl _) rfl ?_ (Nat.le_refl _) (Nat.le_refl _) (by omega) ?_
    · rw [rep_one]
      exact List.all_eq_true.2 fun z hz => by rw [(List.mem_replicate.1 hz).2]; rfl
    intro v H' ho hs
    obtain ⟨s', k1, k2, k3, k4⟩ := xslc_ok (lo := none) (hi := some (.int .i64 0)) (i := 0) (h := 0) ho.1 rfl rfl (Nat.le_refl _) (Nat.zero_le _)
    simp only [k1, Option.map_some, got_some]
    refine hq s' H' ?_ (hs.keep (Own.nil H.n 1 H) (Nat.le_refl _))
    have := k4 H.n ho
    simpa [OwnB] using this
  · have c2 : ¬ (n : Int) - 0 > 0 := by omega
    simp only [ofArgs, run_seq, run_block, run_ops, run_skip, run_exit, run_ret, thenQ_normal, thenQ_exit, thenQ_ret, blockQ_normal, blockQ_exit, blockQ_ret, retQ_ret, retQ_normal, ops_nil, ops_none, got_some, ops_wT, ops_wTn, ops_wF, ops_wFn, ops_wU, dops_wT, dops_wTn, dops_wF, dops_wFn, dops_wU, run_condT, run_condF, alt2_int, altB_bool, altI_int, altBB_bool, v_min, v_max, v_not, v_neg, optEv_none, optEv_some, isSome'_none, isSome'_some, pExt0, pExt1, pExt2, Bool.false_and, Bool.true_and, Bool.not_true, Bool.not_false, cond_true, cond_false, dops_nil, dops_none, xval_call, v_mov, v_bin, v_len, v_ext, v_idxA, v_ld, v_st, v_app, v_appN, v_cvs, v_bs1, pBs1, v_slc, v_conv, v_fld, v_fldA, v_new, v_box, v_mks, v_copy, v_isnil, v_nilck, v_pick, ev, evs_nil, evs_cons, fr_get_cons, fr_put_nil, fr_put_cons, fr_put_some, fr_put_none, fr_keep_nil, fr_keep_cons, fr_has_nil, fr_has_cons, Option.bind_some, Option.map_some, xbin, ibin, xresult_eq, xress_nil, xress_tmp, resV, ex_some, if_true, if_false, ite_true, ite_false, reduceIte, reduceCtorEq, Nat.reduceEqDiff, Nat.reduceLT, Nat.reduceLeDiff, Int.reduceLT, Int.reduceLE, Nat.zero_add, Nat.reduceAdd, Bool.false_eq_true, decide_eq_true_eq, decide_eq_false_iff_not, true_implies, false_implies, and_true, true_and, v_cap, pCap_nil, pLen, c1, c2, w0, w1, x0, decide_true, decide_false, Int.ofNat_eq_natCast, Int.natCast_zero, Int.cast_ofNat_Int]
    exact hq _ H (Own.nil _ _ _) (.refl H)
end Go.Proofs.Ytkhjmmidaihbhaa.D
