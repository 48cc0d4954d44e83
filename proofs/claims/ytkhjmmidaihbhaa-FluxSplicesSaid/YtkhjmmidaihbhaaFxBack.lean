/- What functions that the law reaches compute, on a heap of the run's own: the conditions stand in each theorem. -/
import Derived.Test.YtkhjmmidaihbhaaFxC
set_option linter.unusedSimpArgs false
set_option linter.unusedVariables false
namespace Go.Proofs.Ytkhjmmidaihbhaa.D
open Go Go.Det

theorem dbl (t : List Int) : ∀ a, difs (2 * a) ((sums a t).map fun x => Int.tdiv (x * 2) 1) = t.map fun x => 2 * x := by
  induction t with
  | nil => intro a; rfl
  | cons p t ih =>
    intro a
    simp only [sums, difs, List.map_cons]
    have e : Int.tdiv ((a + p) * 2) 1 = 2 * (a + p) := by rw [Int.tdiv_one]; omega
    rw [e, ih]
    congr 1
    omega
theorem dbl_sum (t : List Int) : (t.map fun x => 2 * x).sum = 2 * t.sum := by
  induction t with
  | nil => rfl
  | cons p t ih => simp [ih]; omega
theorem same_map (t : List Int) (n : Int) (hn : 1 ≤ n) : (t.map fun x => Int.tdiv (x * n) n) = t := by
  induction t with
  | nil => rfl
  | cons p t ih =>
    simp only [List.map_cons, ih]
    rw [Int.mul_tdiv_cancel _ (by omega)]
theorem nears_self (t : List Int) : nears 0 t t = true := by
  induction t with
  | nil => rfl
  | cons p t ih => simp [nears, ih]
theorem sum_bnd (t : List Int) (h : Ok t) : 0 ≤ t.sum ∧ t.sum ≤ 100000 * (t.length : Int) := by
  induction t with
  | nil => simp
  | cons p t ih =>
    have hp := h p (by simp)
    have := ih (fun q hq => h q (by simp [hq]))
    simp only [List.sum_cons, List.length_cons]
    omega

set_option maxHeartbeats 4000000 in
theorem FluxBack_ok (l : List Int) (a : Int) (s : Value) (H : AH) (hs : Ints H s l) : Got (xc Try.prog tab 7 [s, .int .i64 a] H) fun v H' => v = .bool true := by
  refine got_call (res := [.tmp 4]) rfl ?_
  have hl := trk_len l
  have h8 := trk_ok l
  have hok : Ok (trk l) := fun p hp => by have := h8 p hp; omega
  have h0 : (0 : Int) ≤ a % 1000 := Int.emod_nonneg _ (by omega)
  have h1 : a % 1000 < 1000 := Int.emod_lt_of_pos _ (by omega)
  simp only [ofArgs, run_seq, run_block, run_ops, run_skip, run_exit, run_ret, thenQ_normal, thenQ_exit, thenQ_ret, blockQ_normal, blockQ_exit, blockQ_ret, retQ_ret, retQ_normal, ops_nil, ops_none, got_some, ops_wT, ops_wTn, ops_wF, ops_wFn, ops_wU, dops_wT, dops_wTn, dops_wF, dops_wFn, dops_wU, run_condT, run_condF, alt2_int, altB_bool, altI_int, altBB_bool, v_min, v_max, v_not, v_neg, optEv_none, optEv_some, isSome'_none, isSome'_some, pExt0, pExt1, pExt2, Bool.false_and, Bool.true_and, Bool.not_true, Bool.not_false, cond_true, cond_false, dops_nil, dops_none, xval_call, v_mov, v_bin, v_len, v_ext, v_idxA, v_ld, v_st, v_app, v_appN, v_cvs, v_bs1, pBs1, v_slc, v_conv, v_fld, v_fldA, v_new, v_box, v_mks, v_copy, v_isnil, v_nilck, v_pick, ev, evs_nil, evs_cons, fr_get_cons, fr_put_nil, fr_put_cons, fr_put_some, fr_put_none, fr_keep_nil, fr_keep_cons, fr_has_nil, fr_has_cons, Option.bind_some, Option.map_some, xbin, ibin, xresult_eq, xress_nil, xress_tmp, resV, ex_some, if_true, if_false, ite_true, ite_false, reduceIte, reduceCtorEq, Nat.reduceEqDiff, Nat.reduceLT, Nat.reduceLeDiff, Int.reduceLT, Int.reduceLE, Nat.zero_add, Nat.reduceAdd, Bool.false_eq_true, decide_eq_true_eq, decide_eq_false_iff_not, true_implies, false_implies, and_true, true_and]
  refine track_ok l s H _ hs ?_
  intro vt H1 ot x1
  refine marks_ok (trk l) vt H1 _ ot.ints (by omega) hok ?_
  intro vm H2 om x2
  have b1 := fun H => below_xc a 1000 H (by omega) (by omega)
  simp only [ofArgs, run_seq, run_block, run_ops, run_skip, run_exit, run_ret, thenQ_normal, thenQ_exit, thenQ_ret, blockQ_normal, blockQ_exit, blockQ_ret, retQ_ret, retQ_normal, ops_nil, ops_none, got_some, ops_wT, ops_wTn, ops_wF, ops_wFn, ops_wU, dops_wT, dops_wTn, dops_wF, dops_wFn, dops_wU, run_condT, run_condF, alt2_int, altB_bool, altI_int, altBB_bool, v_min, v_max, v_not, v_neg, optEv_none, optEv_some, isSome'_none, isSome'_some, pExt0, pExt1, pExt2, Bool.false_and, Bool.true_and, Bool.not_true, Bool.not_false, cond_true, cond_false, dops_nil, dops_none, xval_call, v_mov, v_bin, v_len, v_ext, v_idxA, v_ld, v_st, v_app, v_appN, v_cvs, v_bs1, pBs1, v_slc, v_conv, v_fld, v_fldA, v_new, v_box, v_mks, v_copy, v_isnil, v_nilck, v_pick, ev, evs_nil, evs_cons, fr_get_cons, fr_put_nil, fr_put_cons, fr_put_some, fr_put_none, fr_keep_nil, fr_keep_cons, fr_has_nil, fr_has_cons, Option.bind_some, Option.map_some, xbin, ibin, xresult_eq, xress_nil, xress_tmp, resV, ex_some, if_true, if_false, ite_true, ite_false, reduceIte, reduceCtorEq, Nat.reduceEqDiff, Nat.reduceLT, Nat.reduceLeDiff, Int.reduceLT, Int.reduceLE, Nat.zero_add, Nat.reduceAdd, Bool.false_eq_true, decide_eq_true_eq, decide_eq_false_iff_not, true_implies, false_implies, and_true, true_and]
  refine of_ok (sums 0 (trk l)) vm H2 _ om.ints (by rw [sums_len]; omega) (by rw [difs_sums]; exact hok) ?_
  rw [difs_sums]
  intro vu H3 ou x3
  have e1 := wrI (1 + a % 1000) (by omega) (by omega)
  simp only [ofArgs, run_seq, run_block, run_ops, run_skip, run_exit, run_ret, thenQ_normal, thenQ_exit, thenQ_ret, blockQ_normal, blockQ_exit, blockQ_ret, retQ_ret, retQ_normal, ops_nil, ops_none, got_some, ops_wT, ops_wTn, ops_wF, ops_wFn, ops_wU, dops_wT, dops_wTn, dops_wF, dops_wFn, dops_wU, run_condT, run_condF, alt2_int, altB_bool, altI_int, altBB_bool, v_min, v_max, v_not, v_neg, optEv_none, optEv_some, isSome'_none, isSome'_some, pExt0, pExt1, pExt2, Bool.false_and, Bool.true_and, Bool.not_true, Bool.not_false, cond_true, cond_false, dops_nil, dops_none, xval_call, v_mov, v_bin, v_len, v_ext, v_idxA, v_ld, v_st, v_app, v_appN, v_cvs, v_bs1, pBs1, v_slc, v_conv, v_fld, v_fldA, v_new, v_box, v_mks, v_copy, v_isnil, v_nilck, v_pick, ev, evs_nil, evs_cons, fr_get_cons, fr_put_nil, fr_put_cons, fr_put_some, fr_put_none, fr_keep_nil, fr_keep_cons, fr_has_nil, fr_has_cons, Option.bind_some, Option.map_some, xbin, ibin, xresult_eq, xress_nil, xress_tmp, resV, ex_some, if_true, if_false, ite_true, ite_false, reduceIte, reduceCtorEq, Nat.reduceEqDiff, Nat.reduceLT, Nat.reduceLeDiff, Int.reduceLT, Int.reduceLE, Nat.zero_add, Nat.reduceAdd, Bool.false_eq_true, decide_eq_true_eq, decide_eq_false_iff_not, true_implies, false_implies, and_true, true_and, b1, e1]
  have t1 := hext_ints (x2.trans x3) ot.ints
  have s1 : ((sums 0 (trk l)).map fun x => Int.tdiv (x * (1 + a % 1000)) (1 + a % 1000)) = sums 0 (trk l) := same_map _ _ (by omega)
  have s2 : difs 0 ((sums 0 (trk l)).map fun x => Int.tdiv (x * 2) 1) = (trk l).map fun x => 2 * x := dbl (trk l) 0
  have ok2 : Ok ((trk l).map fun x => 2 * x) := by
    intro p hp
    simp only [List.mem_map] at hp
    obtain ⟨q, hq, rfl⟩ := hp
    have := h8 q hq
    omega
  refine speed_ok (trk l) (1 + a % 1000) (1 + a % 1000) vt H3 _ t1 (by omega) (by omega) (by omega) (by omega) (by omega) hok (by rw [s1, difs_sums]; exact hok) ?_
  rw [s1, difs_sums]
  intro vv H4 ov x4
  simp only [ofArgs, run_seq, run_block, run_ops, run_skip, run_exit, run_ret, thenQ_normal, thenQ_exit, thenQ_ret, blockQ_normal, blockQ_exit, blockQ_ret, retQ_ret, retQ_normal, ops_nil, ops_none, got_some, ops_wT, ops_wTn, ops_wF, ops_wFn, ops_wU, dops_wT, dops_wTn, dops_wF, dops_wFn, dops_wU, run_condT, run_condF, alt2_int, altB_bool, altI_int, altBB_bool, v_min, v_max, v_not, v_neg, optEv_none, optEv_some, isSome'_none, isSome'_some, pExt0, pExt1, pExt2, Bool.false_and, Bool.true_and, Bool.not_true, Bool.not_false, cond_true, cond_false, dops_nil, dops_none, xval_call, v_mov, v_bin, v_len, v_ext, v_idxA, v_ld, v_st, v_app, v_appN, v_cvs, v_bs1, pBs1, v_slc, v_conv, v_fld, v_fldA, v_new, v_box, v_mks, v_copy, v_isnil, v_nilck, v_pick, ev, evs_nil, evs_cons, fr_get_cons, fr_put_nil, fr_put_cons, fr_put_some, fr_put_none, fr_keep_nil, fr_keep_cons, fr_has_nil, fr_has_cons, Option.bind_some, Option.map_some, xbin, ibin, xresult_eq, xress_nil, xress_tmp, resV, ex_some, if_true, if_false, ite_true, ite_false, reduceIte, reduceCtorEq, Nat.reduceEqDiff, Nat.reduceLT, Nat.reduceLeDiff, Int.reduceLT, Int.reduceLE, Nat.zero_add, Nat.reduceAdd, Bool.false_eq_true, decide_eq_true_eq, decide_eq_false_iff_not, true_implies, false_implies, and_true, true_and]
  refine speed_ok (trk l) 2 1 vt H4 _ (hext_ints x4 t1) (by omega) (by omega) (by omega) (by omega) (by omega) hok (by rw [s2]; exact ok2) ?_
  rw [s2]
  intro vw H5 ow x5
  simp only [ofArgs, run_seq, run_block, run_ops, run_skip, run_exit, run_ret, thenQ_normal, thenQ_exit, thenQ_ret, blockQ_normal, blockQ_exit, blockQ_ret, retQ_ret, retQ_normal, ops_nil, ops_none, got_some, ops_wT, ops_wTn, ops_wF, ops_wFn, ops_wU, dops_wT, dops_wTn, dops_wF, dops_wFn, dops_wU, run_condT, run_condF, alt2_int, altB_bool, altI_int, altBB_bool, v_min, v_max, v_not, v_neg, optEv_none, optEv_some, isSome'_none, isSome'_some, pExt0, pExt1, pExt2, Bool.false_and, Bool.true_and, Bool.not_true, Bool.not_false, cond_true, cond_false, dops_nil, dops_none, xval_call, v_mov, v_bin, v_len, v_ext, v_idxA, v_ld, v_st, v_app, v_appN, v_cvs, v_bs1, pBs1, v_slc, v_conv, v_fld, v_fldA, v_new, v_box, v_mks, v_copy, v_isnil, v_nilck, v_pick, ev, evs_nil, evs_cons, fr_get_cons, fr_put_nil, fr_put_cons, fr_put_some, fr_put_none, fr_keep_nil, fr_keep_cons, fr_has_nil, fr_has_cons, Option.bind_some, Option.map_some, xbin, ibin, xresult_eq, xress_nil, xress_tmp, resV, ex_some, if_true, if_false, ite_true, ite_false, reduceIte, reduceCtorEq, Nat.reduceEqDiff, Nat.reduceLT, Nat.reduceLeDiff, Int.reduceLT, Int.reduceLE, Nat.zero_add, Nat.reduceAdd, Bool.false_eq_true, decide_eq_true_eq, decide_eq_false_iff_not, true_implies, false_implies, and_true, true_and]
  refine times_ok H5 _ ?_
  intro H6 x6
  have y45 := x4.trans (x5.trans x6)
  have t6 := hext_ints y45 t1
  have u6 := hext_ints y45 ou.ints
  have v6 := hext_ints (x5.trans x6) ov.ints
  have w6 := hext_ints x6 ow.ints
  have q1 := equal_xc _ _ _ _ H6 t6 u6 (by omega) (by omega)
  have q2 := equal_xc _ _ _ _ H6 t6 v6 (by omega) (by omega)
  have q3 := total_xc _ _ H6 w6 (by simp; omega) ok2
  have q4 := total_xc _ _ H6 t6 (by omega) hok
  have sb := sum_bnd _ hok
  have e2 := wrI (2 * (trk l).sum) (by omega) (by omega)
  simp only [ofArgs, run_seq, run_block, run_ops, run_skip, run_exit, run_ret, thenQ_normal, thenQ_exit, thenQ_ret, blockQ_normal, blockQ_exit, blockQ_ret, retQ_ret, retQ_normal, ops_nil, ops_none, got_some, ops_wT, ops_wTn, ops_wF, ops_wFn, ops_wU, dops_wT, dops_wTn, dops_wF, dops_wFn, dops_wU, run_condT, run_condF, alt2_int, altB_bool, altI_int, altBB_bool, v_min, v_max, v_not, v_neg, optEv_none, optEv_some, isSome'_none, isSome'_some, pExt0, pExt1, pExt2, Bool.false_and, Bool.true_and, Bool.not_true, Bool.not_false, cond_true, cond_false, dops_nil, dops_none, xval_call, v_mov, v_bin, v_len, v_ext, v_idxA, v_ld, v_st, v_app, v_appN, v_cvs, v_bs1, pBs1, v_slc, v_conv, v_fld, v_fldA, v_new, v_box, v_mks, v_copy, v_isnil, v_nilck, v_pick, ev, evs_nil, evs_cons, fr_get_cons, fr_put_nil, fr_put_cons, fr_put_some, fr_put_none, fr_keep_nil, fr_keep_cons, fr_has_nil, fr_has_cons, Option.bind_some, Option.map_some, xbin, ibin, xresult_eq, xress_nil, xress_tmp, resV, ex_some, if_true, if_false, ite_true, ite_false, reduceIte, reduceCtorEq, Nat.reduceEqDiff, Nat.reduceLT, Nat.reduceLeDiff, Int.reduceLT, Int.reduceLE, Nat.zero_add, Nat.reduceAdd, Bool.false_eq_true, decide_eq_true_eq, decide_eq_false_iff_not, true_implies, false_implies, and_true, true_and, q1, q2, q3, q4, e2, dbl_sum, decide_true, beq_self_eq_true]
  refine near_ok (trk l) (trk l) 0 vt vu H6 _ t6 u6 (by omega) rfl hok hok ?_
  intro H7 x7
  simp only [ofArgs, run_seq, run_block, run_ops, run_skip, run_exit, run_ret, thenQ_normal, thenQ_exit, thenQ_ret, blockQ_normal, blockQ_exit, blockQ_ret, retQ_ret, retQ_normal, ops_nil, ops_none, got_some, ops_wT, ops_wTn, ops_wF, ops_wFn, ops_wU, dops_wT, dops_wTn, dops_wF, dops_wFn, dops_wU, run_condT, run_condF, alt2_int, altB_bool, altI_int, altBB_bool, v_min, v_max, v_not, v_neg, optEv_none, optEv_some, isSome'_none, isSome'_some, pExt0, pExt1, pExt2, Bool.false_and, Bool.true_and, Bool.not_true, Bool.not_false, cond_true, cond_false, dops_nil, dops_none, xval_call, v_mov, v_bin, v_len, v_ext, v_idxA, v_ld, v_st, v_app, v_appN, v_cvs, v_bs1, pBs1, v_slc, v_conv, v_fld, v_fldA, v_new, v_box, v_mks, v_copy, v_isnil, v_nilck, v_pick, ev, evs_nil, evs_cons, fr_get_cons, fr_put_nil, fr_put_cons, fr_put_some, fr_put_none, fr_keep_nil, fr_keep_cons, fr_has_nil, fr_has_cons, Option.bind_some, Option.map_some, xbin, ibin, xresult_eq, xress_nil, xress_tmp, resV, ex_some, if_true, if_false, ite_true, ite_false, reduceIte, reduceCtorEq, Nat.reduceEqDiff, Nat.reduceLT, Nat.reduceLeDiff, Int.reduceLT, Int.reduceLE, Nat.zero_add, Nat.reduceAdd, Bool.false_eq_true, decide_eq_true_eq, decide_eq_false_iff_not, true_implies, false_implies, and_true, true_and, nears_self]
end Go.Proofs.Ytkhjmmidaihbhaa.D
