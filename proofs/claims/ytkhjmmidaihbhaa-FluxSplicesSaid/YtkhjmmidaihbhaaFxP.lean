/- What functions that the law reaches compute, on a heap of the run's own: the conditions stand in each theorem. -/
import Derived.Test.YtkhjmmidaihbhaaFxBack
import Derived.Test.YtkhjmmidaihbhaaCrcM
set_option linter.unusedSimpArgs false
set_option linter.unusedVariables false
namespace Go.Proofs.Ytkhjmmidaihbhaa.D
open Go Go.Det

theorem growT_ok (n : Nat) (hn : n ≤ 1000000) (H : AH) (Q : Value → AH → Prop) (hq : ∀ v H', OwnI H.n H' v [] → HExt H H' → Q v H') :
    Got (xc Try.prog tab 69 [.slice none 0 0, .int .i64 (n : Int)] H) Q := by
  refine got_call (res := [.tmp 4]) rfl ?_
  have c1 : ¬ (n : Int) < 0 := by omega
  have w0 : IntKind.i64.wrap (0 - 0) = 0 := rfl
  have w1 := wrI ((n : Int) - 0) (by omega) (by omega)
  have x0 : xslc H 1 (.slice none 0 0) none (some (.int .i64 0)) none = some (.slice none 0 0) := rfl
  by_cases h0 : (n : Int) > 0
  · have c2 : (n : Int) - 0 > 0 := by omega
    simp only [ofArgs, run_seq, run_block, run_ops, run_skip, run_exit, run_ret, thenQ_normal, thenQ_exit, thenQ_ret, blockQ_normal, blockQ_exit, blockQ_ret, retQ_ret, retQ_normal, ops_nil, ops_none, got_some, ops_wT, ops_wTn, ops_wF, ops_wFn, ops_wU, dops_wT, dops_wTn, dops_wF, dops_wFn, dops_wU, run_condT, run_condF, alt2_int, altB_bool, altI_int, altBB_bool, v_min, v_max, v_not, v_neg, optEv_none, optEv_some, isSome'_none, isSome'_some, pExt0, pExt1, pExt2, Bool.false_and, Bool.true_and, Bool.not_true, Bool.not_false, cond_true, cond_false, dops_nil, dops_none, xval_call, v_mov, v_bin, v_len, v_ext, v_idxA, v_ld, v_st, v_app, v_appN, v_cvs, v_bs1, pBs1, v_slc, v_conv, v_fld, v_fldA, v_new, v_box, v_mks, v_copy, v_isnil, v_nilck, v_pick, ev, evs_nil, evs_cons, fr_get_cons, fr_put_nil, fr_put_cons, fr_put_some, fr_put_none, fr_keep_nil, fr_keep_cons, fr_has_nil, fr_has_cons, Option.bind_some, Option.map_some, xbin, ibin, xresult_eq, xress_nil, xress_tmp, resV, ex_some, if_true, if_false, ite_true, ite_false, reduceIte, reduceCtorEq, Nat.reduceEqDiff, Nat.reduceLT, Nat.reduceLeDiff, Int.reduceLT, Int.reduceLE, Nat.zero_add, Nat.reduceAdd, Bool.false_eq_true, decide_eq_true_eq, decide_eq_false_iff_not, true_implies, false_implies, and_true, true_and, v_cap, pCap_nil, pLen, c1, c2, w0, w1, x0, decide_true, decide_false, Int.ofNat_eq_natCast, Int.natCast_zero, Int.cast_ofNat_Int]
    rw [Int.sub_zero]
    refine xappN_own (Own.nil H.n 1 H) (Nat.le_refl _) rfl ?_ (Nat.le_refl _) (by omega) (by omega) ?_
    · rw [rep_one]
      exact List.all_eq_true.2 fun z hz => by rw [(List.mem_replicate.1 hz).2]; rfl
    intro v H' ho hs
    obtain ⟨s', k1, k2, k3, k4⟩ := xslc_ok (lo := none) (hi := some (.int .i64 0)) (i := 0) (h := 0) ho.1 rfl rfl (Nat.le_refl _) (Nat.zero_le _)
    simp only [k1, Option.map_some, got_some]
    refine hq s' H' ?_ (hs.keep (Own.nil H.n 1 H) (Nat.le_refl _))
    have := k4 H.n ho
    simpa [OwnI] using this
  · have c2 : ¬ (n : Int) - 0 > 0 := by omega
    simp only [ofArgs, run_seq, run_block, run_ops, run_skip, run_exit, run_ret, thenQ_normal, thenQ_exit, thenQ_ret, blockQ_normal, blockQ_exit, blockQ_ret, retQ_ret, retQ_normal, ops_nil, ops_none, got_some, ops_wT, ops_wTn, ops_wF, ops_wFn, ops_wU, dops_wT, dops_wTn, dops_wF, dops_wFn, dops_wU, run_condT, run_condF, alt2_int, altB_bool, altI_int, altBB_bool, v_min, v_max, v_not, v_neg, optEv_none, optEv_some, isSome'_none, isSome'_some, pExt0, pExt1, pExt2, Bool.false_and, Bool.true_and, Bool.not_true, Bool.not_false, cond_true, cond_false, dops_nil, dops_none, xval_call, v_mov, v_bin, v_len, v_ext, v_idxA, v_ld, v_st, v_app, v_appN, v_cvs, v_bs1, pBs1, v_slc, v_conv, v_fld, v_fldA, v_new, v_box, v_mks, v_copy, v_isnil, v_nilck, v_pick, ev, evs_nil, evs_cons, fr_get_cons, fr_put_nil, fr_put_cons, fr_put_some, fr_put_none, fr_keep_nil, fr_keep_cons, fr_has_nil, fr_has_cons, Option.bind_some, Option.map_some, xbin, ibin, xresult_eq, xress_nil, xress_tmp, resV, ex_some, if_true, if_false, ite_true, ite_false, reduceIte, reduceCtorEq, Nat.reduceEqDiff, Nat.reduceLT, Nat.reduceLeDiff, Int.reduceLT, Int.reduceLE, Nat.zero_add, Nat.reduceAdd, Bool.false_eq_true, decide_eq_true_eq, decide_eq_false_iff_not, true_implies, false_implies, and_true, true_and, v_cap, pCap_nil, pLen, c1, c2, w0, w1, x0, decide_true, decide_false, Int.ofNat_eq_natCast, Int.natCast_zero, Int.cast_ofNat_Int]
    exact hq _ H (Own.nil _ _ _) (.refl H)

theorem concatT_ok (l1 l2 : List Int) (hl1 : l1.length ≤ 1000) (hl2 : l2.length ≤ 1000) (a v1 v2 : Value) (H : AH) (Q : Value → AH → Prop) (ha : Sl H 1 a 2 [v1, v2]) (h1 : Ints H v1 l1) (h2 : Ints H v2 l2)
    (hq : ∀ v H', OwnI H.n H' v (l1 ++ l2) → HExt H H' → Q v H') : Got (xc Try.prog tab 47 [a] H) Q := by
  refine got_call (res := [.tmp 2]) rfl ?_
  have e0 := pLen_ok ha
  have i0 := pIdx_one ha .i64 0 0 rfl (by omega)
  have i1 := pIdx_one ha .i64 1 1 rfl (by omega)
  have d0 := pLd_one ha 0 v1 rfl
  have d1 := pLd_one ha 1 v2 rfl
  have n1 := ints_len h1
  have n2 := ints_len h2
  have w1 := wrI (0 + (l1.length : Int)) (by omega) (by omega)
  have w2 := wrI (0 + (l1.length : Int) + (l2.length : Int)) (by omega) (by omega)
  have w3 : IntKind.i64.wrap (0 + 1) = 1 := rfl
  have w4 : IntKind.i64.wrap (1 + 1) = 2 := rfl
  have c1 : ¬ 0 + (l1.length : Int) < 0 := by omega
  have c2 : ¬ 0 + (l1.length : Int) + (l2.length : Int) < 0 := by omega
  have t2 : ((2 : Nat) : Int) = 2 := rfl
  simp only [ofArgs, run_seq, run_block, run_ops, run_skip, run_exit, run_ret, thenQ_normal, thenQ_exit, thenQ_ret, blockQ_normal, blockQ_exit, blockQ_ret, retQ_ret, retQ_normal, ops_nil, ops_none, got_some, ops_wT, ops_wTn, ops_wF, ops_wFn, ops_wU, dops_wT, dops_wTn, dops_wF, dops_wFn, dops_wU, run_condT, run_condF, alt2_int, altB_bool, altI_int, altBB_bool, v_min, v_max, v_not, v_neg, optEv_none, optEv_some, isSome'_none, isSome'_some, pExt0, pExt1, pExt2, Bool.false_and, Bool.true_and, Bool.not_true, Bool.not_false, cond_true, cond_false, dops_nil, dops_none, xval_call, v_mov, v_bin, v_len, v_ext, v_idxA, v_ld, v_st, v_app, v_appN, v_cvs, v_bs1, pBs1, v_slc, v_conv, v_fld, v_fldA, v_new, v_box, v_mks, v_copy, v_isnil, v_nilck, v_pick, ev, evs_nil, evs_cons, fr_get_cons, fr_put_nil, fr_put_cons, fr_put_some, fr_put_none, fr_keep_nil, fr_keep_cons, fr_has_nil, fr_has_cons, Option.bind_some, Option.map_some, xbin, ibin, xresult_eq, xress_nil, xress_tmp, resV, ex_some, if_true, if_false, ite_true, ite_false, reduceIte, reduceCtorEq, Nat.reduceEqDiff, Nat.reduceLT, Nat.reduceLeDiff, Int.reduceLT, Int.reduceLE, Nat.zero_add, Nat.reduceAdd, Bool.false_eq_true, decide_eq_true_eq, decide_eq_false_iff_not, true_implies, false_implies, and_true, true_and, e0, t2]
  rw [run_loop]
  generalize hL : XCode.loop xslices_Concat_api_Track_int_l0 = L
  simp only [xslices_Concat_api_Track_int_l0, ofArgs, run_seq, run_block, run_ops, run_skip, run_exit, run_ret, thenQ_normal, thenQ_exit, thenQ_ret, blockQ_normal, blockQ_exit, blockQ_ret, retQ_ret, retQ_normal, ops_nil, ops_none, got_some, ops_wT, ops_wTn, ops_wF, ops_wFn, ops_wU, dops_wT, dops_wTn, dops_wF, dops_wFn, dops_wU, run_condT, run_condF, alt2_int, altB_bool, altI_int, altBB_bool, v_min, v_max, v_not, v_neg, optEv_none, optEv_some, isSome'_none, isSome'_some, pExt0, pExt1, pExt2, Bool.false_and, Bool.true_and, Bool.not_true, Bool.not_false, cond_true, cond_false, dops_nil, dops_none, xval_call, v_mov, v_bin, v_len, v_ext, v_idxA, v_ld, v_st, v_app, v_appN, v_cvs, v_bs1, pBs1, v_slc, v_conv, v_fld, v_fldA, v_new, v_box, v_mks, v_copy, v_isnil, v_nilck, v_pick, ev, evs_nil, evs_cons, fr_get_cons, fr_put_nil, fr_put_cons, fr_put_some, fr_put_none, fr_keep_nil, fr_keep_cons, fr_has_nil, fr_has_cons, Option.bind_some, Option.map_some, xbin, ibin, xresult_eq, xress_nil, xress_tmp, resV, ex_some, if_true, if_false, ite_true, ite_false, reduceIte, reduceCtorEq, Nat.reduceEqDiff, Nat.reduceLT, Nat.reduceLeDiff, Int.reduceLT, Int.reduceLE, Nat.zero_add, Nat.reduceAdd, Bool.false_eq_true, decide_eq_true_eq, decide_eq_false_iff_not, true_implies, false_implies, and_true, true_and, decide_true, decide_false, i0, d0, n1, w1, w3, c1]
  subst hL
  rw [run_loop]
  generalize hL : XCode.loop xslices_Concat_api_Track_int_l0 = L
  simp only [xslices_Concat_api_Track_int_l0, ofArgs, run_seq, run_block, run_ops, run_skip, run_exit, run_ret, thenQ_normal, thenQ_exit, thenQ_ret, blockQ_normal, blockQ_exit, blockQ_ret, retQ_ret, retQ_normal, ops_nil, ops_none, got_some, ops_wT, ops_wTn, ops_wF, ops_wFn, ops_wU, dops_wT, dops_wTn, dops_wF, dops_wFn, dops_wU, run_condT, run_condF, alt2_int, altB_bool, altI_int, altBB_bool, v_min, v_max, v_not, v_neg, optEv_none, optEv_some, isSome'_none, isSome'_some, pExt0, pExt1, pExt2, Bool.false_and, Bool.true_and, Bool.not_true, Bool.not_false, cond_true, cond_false, dops_nil, dops_none, xval_call, v_mov, v_bin, v_len, v_ext, v_idxA, v_ld, v_st, v_app, v_appN, v_cvs, v_bs1, pBs1, v_slc, v_conv, v_fld, v_fldA, v_new, v_box, v_mks, v_copy, v_isnil, v_nilck, v_pick, ev, evs_nil, evs_cons, fr_get_cons, fr_put_nil, fr_put_cons, fr_put_some, fr_put_none, fr_keep_nil, fr_keep_cons, fr_has_nil, fr_has_cons, Option.bind_some, Option.map_some, xbin, ibin, xresult_eq, xress_nil, xress_tmp, resV, ex_some, if_true, if_false, ite_true, ite_false, reduceIte, reduceCtorEq, Nat.reduceEqDiff, Nat.reduceLT, Nat.reduceLeDiff, Int.reduceLT, Int.reduceLE, Nat.zero_add, Nat.reduceAdd, Bool.false_eq_true, decide_eq_true_eq, decide_eq_false_iff_not, true_implies, false_implies, and_true, true_and, decide_true, decide_false, i1, d1, n2, w2, w4, c2]
  subst hL
  rw [run_loop]
  generalize hL : XCode.loop xslices_Concat_api_Track_int_l0 = L
  simp only [xslices_Concat_api_Track_int_l0, ofArgs, run_seq, run_block, run_ops, run_skip, run_exit, run_ret, thenQ_normal, thenQ_exit, thenQ_ret, blockQ_normal, blockQ_exit, blockQ_ret, retQ_ret, retQ_normal, ops_nil, ops_none, got_some, ops_wT, ops_wTn, ops_wF, ops_wFn, ops_wU, dops_wT, dops_wTn, dops_wF, dops_wFn, dops_wU, run_condT, run_condF, alt2_int, altB_bool, altI_int, altBB_bool, v_min, v_max, v_not, v_neg, optEv_none, optEv_some, isSome'_none, isSome'_some, pExt0, pExt1, pExt2, Bool.false_and, Bool.true_and, Bool.not_true, Bool.not_false, cond_true, cond_false, dops_nil, dops_none, xval_call, v_mov, v_bin, v_len, v_ext, v_idxA, v_ld, v_st, v_app, v_appN, v_cvs, v_bs1, pBs1, v_slc, v_conv, v_fld, v_fldA, v_new, v_box, v_mks, v_copy, v_isnil, v_nilck, v_pick, ev, evs_nil, evs_cons, fr_get_cons, fr_put_nil, fr_put_cons, fr_put_some, fr_put_none, fr_keep_nil, fr_keep_cons, fr_has_nil, fr_has_cons, Option.bind_some, Option.map_some, xbin, ibin, xresult_eq, xress_nil, xress_tmp, resV, ex_some, if_true, if_false, ite_true, ite_false, reduceIte, reduceCtorEq, Nat.reduceEqDiff, Nat.reduceLT, Nat.reduceLeDiff, Int.reduceLT, Int.reduceLE, Nat.zero_add, Nat.reduceAdd, Bool.false_eq_true, decide_eq_true_eq, decide_eq_false_iff_not, true_implies, false_implies, and_true, true_and, Int.lt_irrefl, decide_false]
  have hsum : (0 + (l1.length : Int) + (l2.length : Int)) = ((l1.length + l2.length : Nat) : Int) := by omega
  rw [hsum]
  refine growT_ok (l1.length + l2.length) (by omega) H _ ?_
  intro v H1 o1 x1
  have ha1 := Sl.ext x1 ha
  have e0 := pLen_ok ha1
  have i0 := pIdx_one ha1 .i64 0 0 rfl (by omega)
  have d0 := pLd_one ha1 0 v1 rfl
  simp only [ofArgs, run_seq, run_block, run_ops, run_skip, run_exit, run_ret, thenQ_normal, thenQ_exit, thenQ_ret, blockQ_normal, blockQ_exit, blockQ_ret, retQ_ret, retQ_normal, ops_nil, ops_none, got_some, ops_wT, ops_wTn, ops_wF, ops_wFn, ops_wU, dops_wT, dops_wTn, dops_wF, dops_wFn, dops_wU, run_condT, run_condF, alt2_int, altB_bool, altI_int, altBB_bool, v_min, v_max, v_not, v_neg, optEv_none, optEv_some, isSome'_none, isSome'_some, pExt0, pExt1, pExt2, Bool.false_and, Bool.true_and, Bool.not_true, Bool.not_false, cond_true, cond_false, dops_nil, dops_none, xval_call, v_mov, v_bin, v_len, v_ext, v_idxA, v_ld, v_st, v_app, v_appN, v_cvs, v_bs1, pBs1, v_slc, v_conv, v_fld, v_fldA, v_new, v_box, v_mks, v_copy, v_isnil, v_nilck, v_pick, ev, evs_nil, evs_cons, fr_get_cons, fr_put_nil, fr_put_cons, fr_put_some, fr_put_none, fr_keep_nil, fr_keep_cons, fr_has_nil, fr_has_cons, Option.bind_some, Option.map_some, xbin, ibin, xresult_eq, xress_nil, xress_tmp, resV, ex_some, if_true, if_false, ite_true, ite_false, reduceIte, reduceCtorEq, Nat.reduceEqDiff, Nat.reduceLT, Nat.reduceLeDiff, Int.reduceLT, Int.reduceLE, Nat.zero_add, Nat.reduceAdd, Bool.false_eq_true, decide_eq_true_eq, decide_eq_false_iff_not, true_implies, false_implies, and_true, true_and, e0, t2]
  rw [run_loop]
  generalize hL2 : XCode.loop xslices_Concat_api_Track_int_l1 = L2
  simp only [xslices_Concat_api_Track_int_l1, ofArgs, run_seq, run_block, run_ops, run_skip, run_exit, run_ret, thenQ_normal, thenQ_exit, thenQ_ret, blockQ_normal, blockQ_exit, blockQ_ret, retQ_ret, retQ_normal, ops_nil, ops_none, got_some, ops_wT, ops_wTn, ops_wF, ops_wFn, ops_wU, dops_wT, dops_wTn, dops_wF, dops_wFn, dops_wU, run_condT, run_condF, alt2_int, altB_bool, altI_int, altBB_bool, v_min, v_max, v_not, v_neg, optEv_none, optEv_some, isSome'_none, isSome'_some, pExt0, pExt1, pExt2, Bool.false_and, Bool.true_and, Bool.not_true, Bool.not_false, cond_true, cond_false, dops_nil, dops_none, xval_call, v_mov, v_bin, v_len, v_ext, v_idxA, v_ld, v_st, v_app, v_appN, v_cvs, v_bs1, pBs1, v_slc, v_conv, v_fld, v_fldA, v_new, v_box, v_mks, v_copy, v_isnil, v_nilck, v_pick, ev, evs_nil, evs_cons, fr_get_cons, fr_put_nil, fr_put_cons, fr_put_some, fr_put_none, fr_keep_nil, fr_keep_cons, fr_has_nil, fr_has_cons, Option.bind_some, Option.map_some, xbin, ibin, xresult_eq, xress_nil, xress_tmp, resV, ex_some, if_true, if_false, ite_true, ite_false, reduceIte, reduceCtorEq, Nat.reduceEqDiff, Nat.reduceLT, Nat.reduceLeDiff, Int.reduceLT, Int.reduceLE, Nat.zero_add, Nat.reduceAdd, Bool.false_eq_true, decide_eq_true_eq, decide_eq_false_iff_not, true_implies, false_implies, and_true, true_and, decide_true, decide_false, i0, d0, w3]
  refine xapp_own o1 x1.1 (Sl.ext x1 h1) (ints_one l1 .i64) (Nat.le_refl _) (by omega) (by simp; omega) ?_
  intro v' H2 o2 s2
  have x2 : HExt H H2 := Keep.trans (n0 := H.n) x1 (s2.keep o1 x1.1)
  subst hL2
  have ha2 := Sl.ext x2 ha
  have i1 := pIdx_one ha2 .i64 1 1 rfl (by omega)
  have d1 := pLd_one ha2 1 v2 rfl
  rw [run_loop]
  generalize hL2 : XCode.loop xslices_Concat_api_Track_int_l1 = L2
  simp only [xslices_Concat_api_Track_int_l1, ofArgs, run_seq, run_block, run_ops, run_skip, run_exit, run_ret, thenQ_normal, thenQ_exit, thenQ_ret, blockQ_normal, blockQ_exit, blockQ_ret, retQ_ret, retQ_normal, ops_nil, ops_none, got_some, ops_wT, ops_wTn, ops_wF, ops_wFn, ops_wU, dops_wT, dops_wTn, dops_wF, dops_wFn, dops_wU, run_condT, run_condF, alt2_int, altB_bool, altI_int, altBB_bool, v_min, v_max, v_not, v_neg, optEv_none, optEv_some, isSome'_none, isSome'_some, pExt0, pExt1, pExt2, Bool.false_and, Bool.true_and, Bool.not_true, Bool.not_false, cond_true, cond_false, dops_nil, dops_none, xval_call, v_mov, v_bin, v_len, v_ext, v_idxA, v_ld, v_st, v_app, v_appN, v_cvs, v_bs1, pBs1, v_slc, v_conv, v_fld, v_fldA, v_new, v_box, v_mks, v_copy, v_isnil, v_nilck, v_pick, ev, evs_nil, evs_cons, fr_get_cons, fr_put_nil, fr_put_cons, fr_put_some, fr_put_none, fr_keep_nil, fr_keep_cons, fr_has_nil, fr_has_cons, Option.bind_some, Option.map_some, xbin, ibin, xresult_eq, xress_nil, xress_tmp, resV, ex_some, if_true, if_false, ite_true, ite_false, reduceIte, reduceCtorEq, Nat.reduceEqDiff, Nat.reduceLT, Nat.reduceLeDiff, Int.reduceLT, Int.reduceLE, Nat.zero_add, Nat.reduceAdd, Bool.false_eq_true, decide_eq_true_eq, decide_eq_false_iff_not, true_implies, false_implies, and_true, true_and, decide_true, decide_false, i1, d1, w4]
  refine xapp_own o2 x2.1 (Sl.ext x2 h2) (ints_one l2 .i64) (Nat.le_refl _) (by omega) (by simp; omega) ?_
  intro v3 H3 o3 s3
  have x3 : HExt H H3 := Keep.trans (n0 := H.n) x2 (s3.keep o2 x2.1)
  subst hL2
  rw [run_loop]
  generalize hL2 : XCode.loop xslices_Concat_api_Track_int_l1 = L2
  simp only [xslices_Concat_api_Track_int_l1, ofArgs, run_seq, run_block, run_ops, run_skip, run_exit, run_ret, thenQ_normal, thenQ_exit, thenQ_ret, blockQ_normal, blockQ_exit, blockQ_ret, retQ_ret, retQ_normal, ops_nil, ops_none, got_some, ops_wT, ops_wTn, ops_wF, ops_wFn, ops_wU, dops_wT, dops_wTn, dops_wF, dops_wFn, dops_wU, run_condT, run_condF, alt2_int, altB_bool, altI_int, altBB_bool, v_min, v_max, v_not, v_neg, optEv_none, optEv_some, isSome'_none, isSome'_some, pExt0, pExt1, pExt2, Bool.false_and, Bool.true_and, Bool.not_true, Bool.not_false, cond_true, cond_false, dops_nil, dops_none, xval_call, v_mov, v_bin, v_len, v_ext, v_idxA, v_ld, v_st, v_app, v_appN, v_cvs, v_bs1, pBs1, v_slc, v_conv, v_fld, v_fldA, v_new, v_box, v_mks, v_copy, v_isnil, v_nilck, v_pick, ev, evs_nil, evs_cons, fr_get_cons, fr_put_nil, fr_put_cons, fr_put_some, fr_put_none, fr_keep_nil, fr_keep_cons, fr_has_nil, fr_has_cons, Option.bind_some, Option.map_some, xbin, ibin, xresult_eq, xress_nil, xress_tmp, resV, ex_some, if_true, if_false, ite_true, ite_false, reduceIte, reduceCtorEq, Nat.reduceEqDiff, Nat.reduceLT, Nat.reduceLeDiff, Int.reduceLT, Int.reduceLE, Nat.zero_add, Nat.reduceAdd, Bool.false_eq_true, decide_eq_true_eq, decide_eq_false_iff_not, true_implies, false_implies, and_true, true_and, Int.lt_irrefl, decide_false]
  refine hq v3 H3 ?_ x3
  unfold OwnI
  simpa using o3

theorem spl_l0 (n0 : Nat) (at0 en : Int) (b : Value) (s : Value) (rest : List Int) : ∀ (pre acc : List Int) (v : Value) (H : AH) (i N : Int) (Q : XExit → Fr → AH → Prop), Ints H s (pre ++ rest) → (∀ b, inB s b → b < n0) → OwnI n0 H v acc → n0 ≤ H.n →
    pre.length + rest.length ≤ 40000 → acc.length + rest.length ≤ 1000000 → i = (pre.length : Int) → N = ((pre ++ rest).length : Int) →
    (∀ v' H', OwnI n0 H' v' (acc ++ (rest.filter fun a => decide (a ≤ at0))) → Keep n0 H H' → Q (.exit 0) [(2, .int .i64 at0), (8, s), (10, b), (11, .int .i64 en), (12, v'), (47, s), (48, .int .i64 N), (49, .int .i64 N), (50, .bool false)] H') →
    Run Try.prog tab (.loop xflux_Splice_l0) [(2, .int .i64 at0), (8, s), (10, b), (11, .int .i64 en), (12, v), (47, s), (48, .int .i64 N), (49, .int .i64 i)] H Q := by
  induction rest with
  | nil =>
    intro pre acc v H i N Q hs hsb ho hn hl hal hi hN hq
    rw [run_loop]
    generalize hL : XCode.loop xflux_Splice_l0 = L
    have hiN : i = N := by simp at hN; omega
    subst hiN
    have hf : ¬ i < i := by omega
    simp only [xflux_Splice_l0, ofArgs, run_seq, run_block, run_ops, run_skip, run_exit, run_ret, thenQ_normal, thenQ_exit, thenQ_ret, blockQ_normal, blockQ_exit, blockQ_ret, retQ_ret, retQ_normal, ops_nil, ops_none, got_some, ops_wT, ops_wTn, ops_wF, ops_wFn, ops_wU, dops_wT, dops_wTn, dops_wF, dops_wFn, dops_wU, run_condT, run_condF, alt2_int, altB_bool, altI_int, altBB_bool, v_min, v_max, v_not, v_neg, optEv_none, optEv_some, isSome'_none, isSome'_some, pExt0, pExt1, pExt2, Bool.false_and, Bool.true_and, Bool.not_true, Bool.not_false, cond_true, cond_false, dops_nil, dops_none, xval_call, v_mov, v_bin, v_len, v_ext, v_idxA, v_ld, v_st, v_app, v_appN, v_cvs, v_bs1, pBs1, v_slc, v_conv, v_fld, v_fldA, v_new, v_box, v_mks, v_copy, v_isnil, v_nilck, v_pick, ev, evs_nil, evs_cons, fr_get_cons, fr_put_nil, fr_put_cons, fr_put_some, fr_put_none, fr_keep_nil, fr_keep_cons, fr_has_nil, fr_has_cons, Option.bind_some, Option.map_some, xbin, ibin, xresult_eq, xress_nil, xress_tmp, resV, ex_some, if_true, if_false, ite_true, ite_false, reduceIte, reduceCtorEq, Nat.reduceEqDiff, Nat.reduceLT, Nat.reduceLeDiff, Int.reduceLT, Int.reduceLE, Nat.zero_add, Nat.reduceAdd, Bool.false_eq_true, decide_eq_true_eq, decide_eq_false_iff_not, true_implies, false_implies, and_true, true_and, hf, decide_false]
    have := hq v H (by simpa using ho) (.refl _ _)
    simpa using this
  | cons a rest ih =>
    intro pre acc v H i N Q hs hsb ho hn hl hal hi hN hq
    simp only [List.length_cons] at hl hal
    rw [run_loop]
    generalize hL : XCode.loop xflux_Splice_l0 = L
    have hlt : i < N := by simp at hN; omega
    have e1 := ints_idx hs i pre.length hi (by simp)
    have e2 := ints_ld hs pre.length a (by simp)
    have e4 := wrI (i + 1) (by omega) (by omega)
    by_cases hc : a ≤ at0
    · simp only [xflux_Splice_l0, ofArgs, run_seq, run_block, run_ops, run_skip, run_exit, run_ret, thenQ_normal, thenQ_exit, thenQ_ret, blockQ_normal, blockQ_exit, blockQ_ret, retQ_ret, retQ_normal, ops_nil, ops_none, got_some, ops_wT, ops_wTn, ops_wF, ops_wFn, ops_wU, dops_wT, dops_wTn, dops_wF, dops_wFn, dops_wU, run_condT, run_condF, alt2_int, altB_bool, altI_int, altBB_bool, v_min, v_max, v_not, v_neg, optEv_none, optEv_some, isSome'_none, isSome'_some, pExt0, pExt1, pExt2, Bool.false_and, Bool.true_and, Bool.not_true, Bool.not_false, cond_true, cond_false, dops_nil, dops_none, xval_call, v_mov, v_bin, v_len, v_ext, v_idxA, v_ld, v_st, v_app, v_appN, v_cvs, v_bs1, pBs1, v_slc, v_conv, v_fld, v_fldA, v_new, v_box, v_mks, v_copy, v_isnil, v_nilck, v_pick, ev, evs_nil, evs_cons, fr_get_cons, fr_put_nil, fr_put_cons, fr_put_some, fr_put_none, fr_keep_nil, fr_keep_cons, fr_has_nil, fr_has_cons, Option.bind_some, Option.map_some, xbin, ibin, xresult_eq, xress_nil, xress_tmp, resV, ex_some, if_true, if_false, ite_true, ite_false, reduceIte, reduceCtorEq, Nat.reduceEqDiff, Nat.reduceLT, Nat.reduceLeDiff, Int.reduceLT, Int.reduceLE, Nat.zero_add, Nat.reduceAdd, Bool.false_eq_true, decide_eq_true_eq, decide_eq_false_iff_not, true_implies, false_implies, and_true, true_and, hlt, decide_true, e1, e2, e4, hc]
      refine app_one ho hn (by omega) fun v' H' ho' hs' => ?_
      have hk := hs'.keep ho hn
      subst hL
      refine ih (pre ++ [a]) (acc ++ [a]) v' H' (i + 1) N Q ((Ints.keep hs hk hsb).app1) hsb ho' (by have := hk.1; omega) (by simp; omega) (by simp; omega) (by simp; omega) (by simpa using hN) ?_
      intro v2 H2 ho2 hk2
      exact hq v2 H2 (by simpa [hc] using ho2) (hk.trans hk2)
    · simp only [xflux_Splice_l0, ofArgs, run_seq, run_block, run_ops, run_skip, run_exit, run_ret, thenQ_normal, thenQ_exit, thenQ_ret, blockQ_normal, blockQ_exit, blockQ_ret, retQ_ret, retQ_normal, ops_nil, ops_none, got_some, ops_wT, ops_wTn, ops_wF, ops_wFn, ops_wU, dops_wT, dops_wTn, dops_wF, dops_wFn, dops_wU, run_condT, run_condF, alt2_int, altB_bool, altI_int, altBB_bool, v_min, v_max, v_not, v_neg, optEv_none, optEv_some, isSome'_none, isSome'_some, pExt0, pExt1, pExt2, Bool.false_and, Bool.true_and, Bool.not_true, Bool.not_false, cond_true, cond_false, dops_nil, dops_none, xval_call, v_mov, v_bin, v_len, v_ext, v_idxA, v_ld, v_st, v_app, v_appN, v_cvs, v_bs1, pBs1, v_slc, v_conv, v_fld, v_fldA, v_new, v_box, v_mks, v_copy, v_isnil, v_nilck, v_pick, ev, evs_nil, evs_cons, fr_get_cons, fr_put_nil, fr_put_cons, fr_put_some, fr_put_none, fr_keep_nil, fr_keep_cons, fr_has_nil, fr_has_cons, Option.bind_some, Option.map_some, xbin, ibin, xresult_eq, xress_nil, xress_tmp, resV, ex_some, if_true, if_false, ite_true, ite_false, reduceIte, reduceCtorEq, Nat.reduceEqDiff, Nat.reduceLT, Nat.reduceLeDiff, Int.reduceLT, Int.reduceLE, Nat.zero_add, Nat.reduceAdd, Bool.false_eq_true, decide_eq_true_eq, decide_eq_false_iff_not, true_implies, false_implies, and_true, true_and, hlt, decide_true, decide_false, e1, e2, e4, hc]
      subst hL
      refine ih (pre ++ [a]) acc v H (i + 1) N Q hs.app1 hsb ho hn (by simp; omega) (by omega) (by simp; omega) (by simpa using hN) ?_
      intro v2 H2 ho2 hk2
      exact hq v2 H2 (by simpa [hc] using ho2) hk2

theorem spl_l1 (n0 : Nat) (at0 en : Int) (c : Value) (s : Value) (rest : List Int) : ∀ (pre acc : List Int) (v : Value) (H : AH) (i N : Int) (Q : XExit → Fr → AH → Prop), Ints H s (pre ++ rest) → (∀ b, inB s b → b < n0) → OwnI n0 H v acc → n0 ≤ H.n →
    pre.length + rest.length ≤ 40000 → acc.length + rest.length ≤ 1000000 → (∀ a ∈ rest, 0 ≤ a ∧ a ≤ 4000000000 ∧ 0 ≤ at0 ∧ at0 ≤ 4000000000) → i = (pre.length : Int) → N = ((pre ++ rest).length : Int) →
    (∀ v' H', OwnI n0 H' v' (acc ++ (rest.map fun a => at0 + a)) → Keep n0 H H' → Q (.exit 2) [(2, .int .i64 at0), (8, c), (11, .int .i64 en), (12, v'), (61, s), (62, .int .i64 N), (63, .int .i64 N), (64, .bool false)] H') →
    Run Try.prog tab (.loop xflux_Splice_l1) [(2, .int .i64 at0), (8, c), (11, .int .i64 en), (12, v), (61, s), (62, .int .i64 N), (63, .int .i64 i)] H Q := by
  induction rest with
  | nil =>
    intro pre acc v H i N Q hs hsb ho hn hl hal hP hi hN hq
    rw [run_loop]
    generalize hL : XCode.loop xflux_Splice_l1 = L
    have hiN : i = N := by simp at hN; omega
    subst hiN
    have hf : ¬ i < i := by omega
    simp only [xflux_Splice_l1, ofArgs, run_seq, run_block, run_ops, run_skip, run_exit, run_ret, thenQ_normal, thenQ_exit, thenQ_ret, blockQ_normal, blockQ_exit, blockQ_ret, retQ_ret, retQ_normal, ops_nil, ops_none, got_some, ops_wT, ops_wTn, ops_wF, ops_wFn, ops_wU, dops_wT, dops_wTn, dops_wF, dops_wFn, dops_wU, run_condT, run_condF, alt2_int, altB_bool, altI_int, altBB_bool, v_min, v_max, v_not, v_neg, optEv_none, optEv_some, isSome'_none, isSome'_some, pExt0, pExt1, pExt2, Bool.false_and, Bool.true_and, Bool.not_true, Bool.not_false, cond_true, cond_false, dops_nil, dops_none, xval_call, v_mov, v_bin, v_len, v_ext, v_idxA, v_ld, v_st, v_app, v_appN, v_cvs, v_bs1, pBs1, v_slc, v_conv, v_fld, v_fldA, v_new, v_box, v_mks, v_copy, v_isnil, v_nilck, v_pick, ev, evs_nil, evs_cons, fr_get_cons, fr_put_nil, fr_put_cons, fr_put_some, fr_put_none, fr_keep_nil, fr_keep_cons, fr_has_nil, fr_has_cons, Option.bind_some, Option.map_some, xbin, ibin, xresult_eq, xress_nil, xress_tmp, resV, ex_some, if_true, if_false, ite_true, ite_false, reduceIte, reduceCtorEq, Nat.reduceEqDiff, Nat.reduceLT, Nat.reduceLeDiff, Int.reduceLT, Int.reduceLE, Nat.zero_add, Nat.reduceAdd, Bool.false_eq_true, decide_eq_true_eq, decide_eq_false_iff_not, true_implies, false_implies, and_true, true_and, hf, decide_false]
    have := hq v H (by simpa using ho) (.refl _ _)
    simpa using this
  | cons a rest ih =>
    intro pre acc v H i N Q hs hsb ho hn hl hal hP hi hN hq
    simp only [List.length_cons] at hl hal
    rw [run_loop]
    generalize hL : XCode.loop xflux_Splice_l1 = L
    have hlt : i < N := by simp at hN; omega
    have ha := hP a (by simp)
    have e1 := ints_idx hs i pre.length hi (by simp)
    have e2 := ints_ld hs pre.length a (by simp)
    have e4 := wrI (i + 1) (by omega) (by omega)
    have e3 := wrI (at0 + a) (by omega) (by omega)
    simp only [xflux_Splice_l1, ofArgs, run_seq, run_block, run_ops, run_skip, run_exit, run_ret, thenQ_normal, thenQ_exit, thenQ_ret, blockQ_normal, blockQ_exit, blockQ_ret, retQ_ret, retQ_normal, ops_nil, ops_none, got_some, ops_wT, ops_wTn, ops_wF, ops_wFn, ops_wU, dops_wT, dops_wTn, dops_wF, dops_wFn, dops_wU, run_condT, run_condF, alt2_int, altB_bool, altI_int, altBB_bool, v_min, v_max, v_not, v_neg, optEv_none, optEv_some, isSome'_none, isSome'_some, pExt0, pExt1, pExt2, Bool.false_and, Bool.true_and, Bool.not_true, Bool.not_false, cond_true, cond_false, dops_nil, dops_none, xval_call, v_mov, v_bin, v_len, v_ext, v_idxA, v_ld, v_st, v_app, v_appN, v_cvs, v_bs1, pBs1, v_slc, v_conv, v_fld, v_fldA, v_new, v_box, v_mks, v_copy, v_isnil, v_nilck, v_pick, ev, evs_nil, evs_cons, fr_get_cons, fr_put_nil, fr_put_cons, fr_put_some, fr_put_none, fr_keep_nil, fr_keep_cons, fr_has_nil, fr_has_cons, Option.bind_some, Option.map_some, xbin, ibin, xresult_eq, xress_nil, xress_tmp, resV, ex_some, if_true, if_false, ite_true, ite_false, reduceIte, reduceCtorEq, Nat.reduceEqDiff, Nat.reduceLT, Nat.reduceLeDiff, Int.reduceLT, Int.reduceLE, Nat.zero_add, Nat.reduceAdd, Bool.false_eq_true, decide_eq_true_eq, decide_eq_false_iff_not, true_implies, false_implies, and_true, true_and, hlt, decide_true, e1, e2, e4, e3]
    refine app_one ho hn (by omega) fun v' H' ho' hs' => ?_
    have hk := hs'.keep ho hn
    subst hL
    refine ih (pre ++ [a]) (acc ++ [at0 + a]) v' H' (i + 1) N Q ((Ints.keep hs hk hsb).app1) hsb ho' (by have := hk.1; omega) (by simp; omega) (by simp; omega) (fun p hp => hP p (by simp [hp])) (by simp; omega) (by simpa using hN) ?_
    intro v2 H2 ho2 hk2
    exact hq v2 H2 (by simpa using ho2) (hk.trans hk2)

theorem spl_l2 (n0 : Nat) (en : Int) (s : Value) (rest : List Int) : ∀ (pre acc : List Int) (v : Value) (H : AH) (i N : Int) (Q : XExit → Fr → AH → Prop), Ints H s (pre ++ rest) → (∀ b, inB s b → b < n0) → OwnI n0 H v acc → n0 ≤ H.n →
    pre.length + rest.length ≤ 40000 → acc.length + rest.length ≤ 1000000 → i = (pre.length : Int) → N = ((pre ++ rest).length : Int) →
    (∀ v' H', OwnI n0 H' v' (acc ++ (rest.filter fun a => decide (a > en))) → Keep n0 H H' → Q (.exit 4) [(11, .int .i64 en), (12, v'), (74, s), (75, .int .i64 N), (76, .int .i64 N), (77, .bool false)] H') →
    Run Try.prog tab (.loop xflux_Splice_l2) [(11, .int .i64 en), (12, v), (74, s), (75, .int .i64 N), (76, .int .i64 i)] H Q := by
  induction rest with
  | nil =>
    intro pre acc v H i N Q hs hsb ho hn hl hal hi hN hq
    rw [run_loop]
    generalize hL : XCode.loop xflux_Splice_l2 = L
    have hiN : i = N := by simp at hN; omega
    subst hiN
    have hf : ¬ i < i := by omega
    simp only [xflux_Splice_l2, ofArgs, run_seq, run_block, run_ops, run_skip, run_exit, run_ret, thenQ_normal, thenQ_exit, thenQ_ret, blockQ_normal, blockQ_exit, blockQ_ret, retQ_ret, retQ_normal, ops_nil, ops_none, got_some, ops_wT, ops_wTn, ops_wF, ops_wFn, ops_wU, dops_wT, dops_wTn, dops_wF, dops_wFn, dops_wU, run_condT, run_condF, alt2_int, altB_bool, altI_int, altBB_bool, v_min, v_max, v_not, v_neg, optEv_none, optEv_some, isSome'_none, isSome'_some, pExt0, pExt1, pExt2, Bool.false_and, Bool.true_and, Bool.not_true, Bool.not_false, cond_true, cond_false, dops_nil, dops_none, xval_call, v_mov, v_bin, v_len, v_ext, v_idxA, v_ld, v_st, v_app, v_appN, v_cvs, v_bs1, pBs1, v_slc, v_conv, v_fld, v_fldA, v_new, v_box, v_mks, v_copy, v_isnil, v_nilck, v_pick, ev, evs_nil, evs_cons, fr_get_cons, fr_put_nil, fr_put_cons, fr_put_some, fr_put_none, fr_keep_nil, fr_keep_cons, fr_has_nil, fr_has_cons, Option.bind_some, Option.map_some, xbin, ibin, xresult_eq, xress_nil, xress_tmp, resV, ex_some, if_true, if_false, ite_true, ite_false, reduceIte, reduceCtorEq, Nat.reduceEqDiff, Nat.reduceLT, Nat.reduceLeDiff, Int.reduceLT, Int.reduceLE, Nat.zero_add, Nat.reduceAdd, Bool.false_eq_true, decide_eq_true_eq, decide_eq_false_iff_not, true_implies, false_implies, and_true, true_and, hf, decide_false]
    have := hq v H (by simpa using ho) (.refl _ _)
    simpa using this
  | cons a rest ih =>
    intro pre acc v H i N Q hs hsb ho hn hl hal hi hN hq
    simp only [List.length_cons] at hl hal
    rw [run_loop]
    generalize hL : XCode.loop xflux_Splice_l2 = L
    have hlt : i < N := by simp at hN; omega
    have e1 := ints_idx hs i pre.length hi (by simp)
    have e2 := ints_ld hs pre.length a (by simp)
    have e4 := wrI (i + 1) (by omega) (by omega)
    by_cases hc : a > en
    · simp only [xflux_Splice_l2, ofArgs, run_seq, run_block, run_ops, run_skip, run_exit, run_ret, thenQ_normal, thenQ_exit, thenQ_ret, blockQ_normal, blockQ_exit, blockQ_ret, retQ_ret, retQ_normal, ops_nil, ops_none, got_some, ops_wT, ops_wTn, ops_wF, ops_wFn, ops_wU, dops_wT, dops_wTn, dops_wF, dops_wFn, dops_wU, run_condT, run_condF, alt2_int, altB_bool, altI_int, altBB_bool, v_min, v_max, v_not, v_neg, optEv_none, optEv_some, isSome'_none, isSome'_some, pExt0, pExt1, pExt2, Bool.false_and, Bool.true_and, Bool.not_true, Bool.not_false, cond_true, cond_false, dops_nil, dops_none, xval_call, v_mov, v_bin, v_len, v_ext, v_idxA, v_ld, v_st, v_app, v_appN, v_cvs, v_bs1, pBs1, v_slc, v_conv, v_fld, v_fldA, v_new, v_box, v_mks, v_copy, v_isnil, v_nilck, v_pick, ev, evs_nil, evs_cons, fr_get_cons, fr_put_nil, fr_put_cons, fr_put_some, fr_put_none, fr_keep_nil, fr_keep_cons, fr_has_nil, fr_has_cons, Option.bind_some, Option.map_some, xbin, ibin, xresult_eq, xress_nil, xress_tmp, resV, ex_some, if_true, if_false, ite_true, ite_false, reduceIte, reduceCtorEq, Nat.reduceEqDiff, Nat.reduceLT, Nat.reduceLeDiff, Int.reduceLT, Int.reduceLE, Nat.zero_add, Nat.reduceAdd, Bool.false_eq_true, decide_eq_true_eq, decide_eq_false_iff_not, true_implies, false_implies, and_true, true_and, hlt, decide_true, e1, e2, e4, hc]
      refine app_one ho hn (by omega) fun v' H' ho' hs' => ?_
      have hk := hs'.keep ho hn
      subst hL
      refine ih (pre ++ [a]) (acc ++ [a]) v' H' (i + 1) N Q ((Ints.keep hs hk hsb).app1) hsb ho' (by have := hk.1; omega) (by simp; omega) (by simp; omega) (by simp; omega) (by simpa using hN) ?_
      intro v2 H2 ho2 hk2
      exact hq v2 H2 (by simpa [hc] using ho2) (hk.trans hk2)
    · simp only [xflux_Splice_l2, ofArgs, run_seq, run_block, run_ops, run_skip, run_exit, run_ret, thenQ_normal, thenQ_exit, thenQ_ret, blockQ_normal, blockQ_exit, blockQ_ret, retQ_ret, retQ_normal, ops_nil, ops_none, got_some, ops_wT, ops_wTn, ops_wF, ops_wFn, ops_wU, dops_wT, dops_wTn, dops_wF, dops_wFn, dops_wU, run_condT, run_condF, alt2_int, altB_bool, altI_int, altBB_bool, v_min, v_max, v_not, v_neg, optEv_none, optEv_some, isSome'_none, isSome'_some, pExt0, pExt1, pExt2, Bool.false_and, Bool.true_and, Bool.not_true, Bool.not_false, cond_true, cond_false, dops_nil, dops_none, xval_call, v_mov, v_bin, v_len, v_ext, v_idxA, v_ld, v_st, v_app, v_appN, v_cvs, v_bs1, pBs1, v_slc, v_conv, v_fld, v_fldA, v_new, v_box, v_mks, v_copy, v_isnil, v_nilck, v_pick, ev, evs_nil, evs_cons, fr_get_cons, fr_put_nil, fr_put_cons, fr_put_some, fr_put_none, fr_keep_nil, fr_keep_cons, fr_has_nil, fr_has_cons, Option.bind_some, Option.map_some, xbin, ibin, xresult_eq, xress_nil, xress_tmp, resV, ex_some, if_true, if_false, ite_true, ite_false, reduceIte, reduceCtorEq, Nat.reduceEqDiff, Nat.reduceLT, Nat.reduceLeDiff, Int.reduceLT, Int.reduceLE, Nat.zero_add, Nat.reduceAdd, Bool.false_eq_true, decide_eq_true_eq, decide_eq_false_iff_not, true_implies, false_implies, and_true, true_and, hlt, decide_true, decide_false, e1, e2, e4, hc]
      subst hL
      refine ih (pre ++ [a]) acc v H (i + 1) N Q hs.app1 hsb ho hn (by simp; omega) (by omega) (by simp; omega) (by simpa using hN) ?_
      intro v2 H2 ho2 hk2
      exact hq v2 H2 (by simpa [hc] using ho2) hk2

def spl (t u : List Int) (at0 : Int) : List Int := ((sums 0 t).filter fun x => decide (x ≤ at0)) ++ ((sums 0 u).map fun x => at0 + x) ++ ((sums 0 t).filter fun x => decide (x > at0 + u.sum))

theorem splice_ok (t u : List Int) (at0 : Int) (s v : Value) (H : AH) (Q : Value → AH → Prop) (hs : Ints H s t) (hv : Ints H v u) (hl : t.length ≤ 10000) (hlu : u.length ≤ 10000) (ht : Ok t) (hu : Ok u) (h0 : 0 ≤ at0) (h1 : at0 ≤ t.sum)
    (hok : Ok (difs 0 (spl t u at0))) (hq : ∀ v' H', OwnI H.n H' v' (difs 0 (spl t u at0)) → HExt H H' → Q (.tuple [v', .int .i64 0].toArray) H') : Got (xc Try.prog tab 46 [s, v, .int .i64 at0] H) Q := by
  refine got_call (res := [.tmp 6, .tmp 7]) rfl ?_
  have bt := sum_bnd t ht
  have bu := sum_bnd u hu
  simp only [ofArgs, run_seq, run_block, run_ops, run_skip, run_exit, run_ret, thenQ_normal, thenQ_exit, thenQ_ret, blockQ_normal, blockQ_exit, blockQ_ret, retQ_ret, retQ_normal, ops_nil, ops_none, got_some, ops_wT, ops_wTn, ops_wF, ops_wFn, ops_wU, dops_wT, dops_wTn, dops_wF, dops_wFn, dops_wU, run_condT, run_condF, alt2_int, altB_bool, altI_int, altBB_bool, v_min, v_max, v_not, v_neg, optEv_none, optEv_some, isSome'_none, isSome'_some, pExt0, pExt1, pExt2, Bool.false_and, Bool.true_and, Bool.not_true, Bool.not_false, cond_true, cond_false, dops_nil, dops_none, xval_call, v_mov, v_bin, v_len, v_ext, v_idxA, v_ld, v_st, v_app, v_appN, v_cvs, v_bs1, pBs1, v_slc, v_conv, v_fld, v_fldA, v_new, v_box, v_mks, v_copy, v_isnil, v_nilck, v_pick, ev, evs_nil, evs_cons, fr_get_cons, fr_put_nil, fr_put_cons, fr_put_some, fr_put_none, fr_keep_nil, fr_keep_cons, fr_has_nil, fr_has_cons, Option.bind_some, Option.map_some, xbin, ibin, xresult_eq, xress_nil, xress_tmp, resV, ex_some, if_true, if_false, ite_true, ite_false, reduceIte, reduceCtorEq, Nat.reduceEqDiff, Nat.reduceLT, Nat.reduceLeDiff, Int.reduceLT, Int.reduceLE, Nat.zero_add, Nat.reduceAdd, Bool.false_eq_true, decide_eq_true_eq, decide_eq_false_iff_not, true_implies, false_implies, and_true, true_and]
  refine marks_ok t s H _ hs (by omega) ht ?_
  intro va H1 oa x1
  simp only [ofArgs, run_seq, run_block, run_ops, run_skip, run_exit, run_ret, thenQ_normal, thenQ_exit, thenQ_ret, blockQ_normal, blockQ_exit, blockQ_ret, retQ_ret, retQ_normal, ops_nil, ops_none, got_some, ops_wT, ops_wTn, ops_wF, ops_wFn, ops_wU, dops_wT, dops_wTn, dops_wF, dops_wFn, dops_wU, run_condT, run_condF, alt2_int, altB_bool, altI_int, altBB_bool, v_min, v_max, v_not, v_neg, optEv_none, optEv_some, isSome'_none, isSome'_some, pExt0, pExt1, pExt2, Bool.false_and, Bool.true_and, Bool.not_true, Bool.not_false, cond_true, cond_false, dops_nil, dops_none, xval_call, v_mov, v_bin, v_len, v_ext, v_idxA, v_ld, v_st, v_app, v_appN, v_cvs, v_bs1, pBs1, v_slc, v_conv, v_fld, v_fldA, v_new, v_box, v_mks, v_copy, v_isnil, v_nilck, v_pick, ev, evs_nil, evs_cons, fr_get_cons, fr_put_nil, fr_put_cons, fr_put_some, fr_put_none, fr_keep_nil, fr_keep_cons, fr_has_nil, fr_has_cons, Option.bind_some, Option.map_some, xbin, ibin, xresult_eq, xress_nil, xress_tmp, resV, ex_some, if_true, if_false, ite_true, ite_false, reduceIte, reduceCtorEq, Nat.reduceEqDiff, Nat.reduceLT, Nat.reduceLeDiff, Int.reduceLT, Int.reduceLE, Nat.zero_add, Nat.reduceAdd, Bool.false_eq_true, decide_eq_true_eq, decide_eq_false_iff_not, true_implies, false_implies, and_true, true_and, bne_self_eq_false]
  refine marks_ok u v H1 _ (Sl.ext x1 hv) (by omega) hu ?_
  intro vb H2 ob x2
  have s2 : Ints H2 s t := Sl.ext (x1.trans x2) hs
  have v2 : Ints H2 v u := Sl.ext (x1.trans x2) hv
  have a2 : Ints H2 va (sums 0 t) := Sl.ext x2 oa.ints
  have b2 : Ints H2 vb (sums 0 u) := ob.ints
  have q1 := total_xc t s H2 s2 (by omega) ht
  have q2 := total_xc u v H2 v2 (by omega) hu
  have c1 : ¬ at0 < 0 := by omega
  have c2 : ¬ at0 > t.sum := by omega
  have w1 := wrI (at0 + u.sum) (by omega) (by omega)
  have n1 := ints_len a2
  have lt := sums_len t 0
  have lu := sums_len u 0
  simp only [ofArgs, run_seq, run_block, run_ops, run_skip, run_exit, run_ret, thenQ_normal, thenQ_exit, thenQ_ret, blockQ_normal, blockQ_exit, blockQ_ret, retQ_ret, retQ_normal, ops_nil, ops_none, got_some, ops_wT, ops_wTn, ops_wF, ops_wFn, ops_wU, dops_wT, dops_wTn, dops_wF, dops_wFn, dops_wU, run_condT, run_condF, alt2_int, altB_bool, altI_int, altBB_bool, v_min, v_max, v_not, v_neg, optEv_none, optEv_some, isSome'_none, isSome'_some, pExt0, pExt1, pExt2, Bool.false_and, Bool.true_and, Bool.not_true, Bool.not_false, cond_true, cond_false, dops_nil, dops_none, xval_call, v_mov, v_bin, v_len, v_ext, v_idxA, v_ld, v_st, v_app, v_appN, v_cvs, v_bs1, pBs1, v_slc, v_conv, v_fld, v_fldA, v_new, v_box, v_mks, v_copy, v_isnil, v_nilck, v_pick, ev, evs_nil, evs_cons, fr_get_cons, fr_put_nil, fr_put_cons, fr_put_some, fr_put_none, fr_keep_nil, fr_keep_cons, fr_has_nil, fr_has_cons, Option.bind_some, Option.map_some, xbin, ibin, xresult_eq, xress_nil, xress_tmp, resV, ex_some, if_true, if_false, ite_true, ite_false, reduceIte, reduceCtorEq, Nat.reduceEqDiff, Nat.reduceLT, Nat.reduceLeDiff, Int.reduceLT, Int.reduceLE, Nat.zero_add, Nat.reduceAdd, Bool.false_eq_true, decide_eq_true_eq, decide_eq_false_iff_not, true_implies, false_implies, and_true, true_and, bne_self_eq_false, q1, q2, c1, c2, decide_false, w1, n1]
  refine spl_l0 H2.n at0 (at0 + u.sum) vb va (sums 0 t) [] [] _ H2 _ _ _ a2 (fun b hb => a2.lt b hb) (OwnI.nil _ _) (Nat.le_refl _) (by simp; omega) (by simp; omega) (by simp) (by simp) ?_
  intro o1 H3 oo1 k3
  have b3 : Ints H3 vb (sums 0 u) := Ints.keep b2 k3 (fun b hb => b2.lt b hb)
  have a3 : Ints H3 va (sums 0 t) := Ints.keep a2 k3 (fun b hb => a2.lt b hb)
  have n2 := ints_len b3
  have hf1 := List.length_filter_le (fun a => decide (a ≤ at0)) (sums 0 t)
  have hf2 := List.length_filter_le (fun a => decide (a > at0 + u.sum)) (sums 0 t)
  have k3n := k3.1
  simp only [ofArgs, run_seq, run_block, run_ops, run_skip, run_exit, run_ret, thenQ_normal, thenQ_exit, thenQ_ret, blockQ_normal, blockQ_exit, blockQ_ret, retQ_ret, retQ_normal, ops_nil, ops_none, got_some, ops_wT, ops_wTn, ops_wF, ops_wFn, ops_wU, dops_wT, dops_wTn, dops_wF, dops_wFn, dops_wU, run_condT, run_condF, alt2_int, altB_bool, altI_int, altBB_bool, v_min, v_max, v_not, v_neg, optEv_none, optEv_some, isSome'_none, isSome'_some, pExt0, pExt1, pExt2, Bool.false_and, Bool.true_and, Bool.not_true, Bool.not_false, cond_true, cond_false, dops_nil, dops_none, xval_call, v_mov, v_bin, v_len, v_ext, v_idxA, v_ld, v_st, v_app, v_appN, v_cvs, v_bs1, pBs1, v_slc, v_conv, v_fld, v_fldA, v_new, v_box, v_mks, v_copy, v_isnil, v_nilck, v_pick, ev, evs_nil, evs_cons, fr_get_cons, fr_put_nil, fr_put_cons, fr_put_some, fr_put_none, fr_keep_nil, fr_keep_cons, fr_has_nil, fr_has_cons, Option.bind_some, Option.map_some, xbin, ibin, xresult_eq, xress_nil, xress_tmp, resV, ex_some, if_true, if_false, ite_true, ite_false, reduceIte, reduceCtorEq, Nat.reduceEqDiff, Nat.reduceLT, Nat.reduceLeDiff, Int.reduceLT, Int.reduceLE, Nat.zero_add, Nat.reduceAdd, Bool.false_eq_true, decide_eq_true_eq, decide_eq_false_iff_not, true_implies, false_implies, and_true, true_and, n2]
  refine spl_l1 H2.n at0 (at0 + u.sum) va vb (sums 0 u) [] _ _ H3 _ _ _ b3 (fun b hb => b2.lt b hb) oo1 k3n (by simp; omega) (by simp at *; omega) ?_ (by simp) (by simp) ?_
  · intro a ha
    have := sums_bnd u 0 (by omega) hu a ha
    omega
  intro o2 H4 oo2 k4
  have a4 : Ints H4 va (sums 0 t) := Ints.keep a3 k4 (fun b hb => a2.lt b hb)
  have n3 := ints_len a4
  have k4n := k4.1
  simp only [ofArgs, run_seq, run_block, run_ops, run_skip, run_exit, run_ret, thenQ_normal, thenQ_exit, thenQ_ret, blockQ_normal, blockQ_exit, blockQ_ret, retQ_ret, retQ_normal, ops_nil, ops_none, got_some, ops_wT, ops_wTn, ops_wF, ops_wFn, ops_wU, dops_wT, dops_wTn, dops_wF, dops_wFn, dops_wU, run_condT, run_condF, alt2_int, altB_bool, altI_int, altBB_bool, v_min, v_max, v_not, v_neg, optEv_none, optEv_some, isSome'_none, isSome'_some, pExt0, pExt1, pExt2, Bool.false_and, Bool.true_and, Bool.not_true, Bool.not_false, cond_true, cond_false, dops_nil, dops_none, xval_call, v_mov, v_bin, v_len, v_ext, v_idxA, v_ld, v_st, v_app, v_appN, v_cvs, v_bs1, pBs1, v_slc, v_conv, v_fld, v_fldA, v_new, v_box, v_mks, v_copy, v_isnil, v_nilck, v_pick, ev, evs_nil, evs_cons, fr_get_cons, fr_put_nil, fr_put_cons, fr_put_some, fr_put_none, fr_keep_nil, fr_keep_cons, fr_has_nil, fr_has_cons, Option.bind_some, Option.map_some, xbin, ibin, xresult_eq, xress_nil, xress_tmp, resV, ex_some, if_true, if_false, ite_true, ite_false, reduceIte, reduceCtorEq, Nat.reduceEqDiff, Nat.reduceLT, Nat.reduceLeDiff, Int.reduceLT, Int.reduceLE, Nat.zero_add, Nat.reduceAdd, Bool.false_eq_true, decide_eq_true_eq, decide_eq_false_iff_not, true_implies, false_implies, and_true, true_and, n3]
  refine spl_l2 H2.n (at0 + u.sum) va (sums 0 t) [] _ _ H4 _ _ _ a4 (fun b hb => a2.lt b hb) oo2 (by omega) (by simp; omega) (by simp at *; omega) (by simp) (by simp) ?_
  intro o3 H5 oo3 k5
  have hout : [] ++ (sums 0 t).filter (fun a => decide (a ≤ at0)) ++ ((sums 0 u).map fun a => at0 + a) ++ (sums 0 t).filter (fun a => decide (a > at0 + u.sum)) = spl t u at0 := by simp [spl]
  rw [hout] at oo3
  have hlen : (spl t u at0).length ≤ 40000 := by unfold spl; simp at *; omega
  simp only [ofArgs, run_seq, run_block, run_ops, run_skip, run_exit, run_ret, thenQ_normal, thenQ_exit, thenQ_ret, blockQ_normal, blockQ_exit, blockQ_ret, retQ_ret, retQ_normal, ops_nil, ops_none, got_some, ops_wT, ops_wTn, ops_wF, ops_wFn, ops_wU, dops_wT, dops_wTn, dops_wF, dops_wFn, dops_wU, run_condT, run_condF, alt2_int, altB_bool, altI_int, altBB_bool, v_min, v_max, v_not, v_neg, optEv_none, optEv_some, isSome'_none, isSome'_some, pExt0, pExt1, pExt2, Bool.false_and, Bool.true_and, Bool.not_true, Bool.not_false, cond_true, cond_false, dops_nil, dops_none, xval_call, v_mov, v_bin, v_len, v_ext, v_idxA, v_ld, v_st, v_app, v_appN, v_cvs, v_bs1, pBs1, v_slc, v_conv, v_fld, v_fldA, v_new, v_box, v_mks, v_copy, v_isnil, v_nilck, v_pick, ev, evs_nil, evs_cons, fr_get_cons, fr_put_nil, fr_put_cons, fr_put_some, fr_put_none, fr_keep_nil, fr_keep_cons, fr_has_nil, fr_has_cons, Option.bind_some, Option.map_some, xbin, ibin, xresult_eq, xress_nil, xress_tmp, resV, ex_some, if_true, if_false, ite_true, ite_false, reduceIte, reduceCtorEq, Nat.reduceEqDiff, Nat.reduceLT, Nat.reduceLeDiff, Int.reduceLT, Int.reduceLE, Nat.zero_add, Nat.reduceAdd, Bool.false_eq_true, decide_eq_true_eq, decide_eq_false_iff_not, true_implies, false_implies, and_true, true_and]
  refine of_ok (spl t u at0) o3 H5 _ oo3.ints hlen hok ?_
  intro v' H6 o6 x6
  have k25 : HExt H H5 := (x1.trans x2).trans (k3.trans (k4.trans k5))
  simp only [ofArgs, run_seq, run_block, run_ops, run_skip, run_exit, run_ret, thenQ_normal, thenQ_exit, thenQ_ret, blockQ_normal, blockQ_exit, blockQ_ret, retQ_ret, retQ_normal, ops_nil, ops_none, got_some, ops_wT, ops_wTn, ops_wF, ops_wFn, ops_wU, dops_wT, dops_wTn, dops_wF, dops_wFn, dops_wU, run_condT, run_condF, alt2_int, altB_bool, altI_int, altBB_bool, v_min, v_max, v_not, v_neg, optEv_none, optEv_some, isSome'_none, isSome'_some, pExt0, pExt1, pExt2, Bool.false_and, Bool.true_and, Bool.not_true, Bool.not_false, cond_true, cond_false, dops_nil, dops_none, xval_call, v_mov, v_bin, v_len, v_ext, v_idxA, v_ld, v_st, v_app, v_appN, v_cvs, v_bs1, pBs1, v_slc, v_conv, v_fld, v_fldA, v_new, v_box, v_mks, v_copy, v_isnil, v_nilck, v_pick, ev, evs_nil, evs_cons, fr_get_cons, fr_put_nil, fr_put_cons, fr_put_some, fr_put_none, fr_keep_nil, fr_keep_cons, fr_has_nil, fr_has_cons, Option.bind_some, Option.map_some, xbin, ibin, xresult_eq, xress_nil, xress_tmp, resV, ex_some, if_true, if_false, ite_true, ite_false, reduceIte, reduceCtorEq, Nat.reduceEqDiff, Nat.reduceLT, Nat.reduceLeDiff, Int.reduceLT, Int.reduceLE, Nat.zero_add, Nat.reduceAdd, Bool.false_eq_true, decide_eq_true_eq, decide_eq_false_iff_not, true_implies, false_implies, and_true, true_and]
  exact hq v' H6 (o6.le (by have := k25.1; omega)) (k25.trans x6)

theorem sums_rng (t : List Int) (h : Ok t) : ∀ s, ∀ x ∈ sums s t, s < x ∧ x ≤ s + t.sum := by
  induction t with
  | nil => intro s x hx; simp [sums] at hx
  | cons p t ih =>
    intro s x hx
    have hp := h p (by simp)
    have ht : Ok t := fun q hq => h q (by simp [hq])
    have hb := sum_bnd t ht
    simp only [sums, List.mem_cons] at hx
    rw [List.sum_cons]
    rcases hx with rfl | hx
    · omega
    · have := ih ht (s + p) x hx; omega
theorem sums_app (t u : List Int) : ∀ s, sums s (t ++ u) = sums s t ++ sums (s + t.sum) u := by
  induction t with
  | nil => intro s; simp [sums]
  | cons p t ih => intro s; simp only [List.cons_append, sums, ih, List.sum_cons]; rw [Int.add_assoc]
theorem sums_map (t : List Int) : ∀ s r, (sums r t).map (fun x => s + x) = sums (s + r) t := by
  induction t with
  | nil => intro s r; rfl
  | cons p t ih => intro s r; simp only [sums, List.map_cons, ih]; rw [Int.add_assoc]
theorem filter_all {p : Int → Bool} {l : List Int} (h : ∀ x ∈ l, p x = true) : l.filter p = l := List.filter_eq_self.2 h
theorem filter_none {p : Int → Bool} {l : List Int} (h : ∀ x ∈ l, p x = false) : l.filter p = [] := List.filter_eq_nil_iff.2 fun x hx => by simp [h x hx]
theorem spl_nil (t : List Int) (h : Ok t) (at0 : Int) : spl t [] at0 = sums 0 t := by
  have key : ∀ s, ((sums s t).filter fun x => decide (x ≤ at0)) ++ ((sums s t).filter fun x => decide (x > at0)) = sums s t := by
    induction t with
    | nil => intro s; rfl
    | cons p t ih =>
      intro s
      have ht : Ok t := fun q hq => h q (by simp [hq])
      have hp := h p (by simp)
      simp only [sums]
      by_cases hc : s + p ≤ at0
      · have hn : ¬ s + p > at0 := by omega
        simp only [List.filter_cons, hc, hn, decide_true, decide_false, if_true, Bool.false_eq_true, if_false, List.cons_append]
        rw [ih ht]
      · have hr := sums_rng t ht (s + p)
        rw [filter_none, filter_all, List.nil_append]
        · intro x hx
          rcases List.mem_cons.1 hx with rfl | hx
          · simp; omega
          · have := hr x hx; simp; omega
        · intro x hx
          rcases List.mem_cons.1 hx with rfl | hx
          · simp; omega
          · have := hr x hx; simp; omega
  have := key 0
  simpa [spl, sums] using this
theorem spl_own (t : List Int) (h : Ok t) (k : Nat) : spl t (t.take k) 0 = sums 0 t := by
  have h1 : Ok (t.take k) := fun q hq => h q (List.mem_of_mem_take hq)
  have h2 : Ok (t.drop k) := fun q hq => h q (List.mem_of_mem_drop hq)
  have e := sums_app (t.take k) (t.drop k) 0
  rw [List.take_append_drop] at e
  have r0 := sums_rng t h 0
  have r1 := sums_rng _ h1 0
  have r2 := sums_rng _ h2 (0 + (t.take k).sum)
  unfold spl
  rw [filter_none (l := sums 0 t) (p := fun x => decide (x ≤ 0)) (fun x hx => by have := r0 x hx; simp; omega), sums_map]
  conv => lhs; rw [e]
  rw [List.filter_append, filter_none (l := sums 0 (t.take k)), filter_all (l := sums (0 + (t.take k).sum) (t.drop k))]
  · simp only [List.nil_append]; exact e.symm
  · intro x hx; have := r2 x hx; simp; omega
  · intro x hx; have := r1 x hx; simp; omega
theorem spl_end (t u : List Int) (h : Ok t) (hu : Ok u) : spl t u t.sum = sums 0 (t ++ u) := by
  have r0 := sums_rng t h 0
  have hb := sum_bnd u hu
  unfold spl
  rw [filter_all (l := sums 0 t) (fun x hx => by have := r0 x hx; simp; omega), sums_map, filter_none (l := sums 0 t) (fun x hx => by have := r0 x hx; simp; omega), sums_app]
  simp
end Go.Proofs.Ytkhjmmidaihbhaa.D
