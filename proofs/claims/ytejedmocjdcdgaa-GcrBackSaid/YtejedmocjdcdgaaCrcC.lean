/- What functions that the law reaches compute, on a heap of the run's own: the conditions stand in each theorem. -/
import Derived.Test.YtejedmocjdcdgaaCrcB
set_option linter.unusedSimpArgs false
set_option linter.unusedVariables false
namespace Go.Proofs.Ytejedmocjdcdgaa.D
open Go Go.Det

/-- some bytes of raw numbers -/
def someB (l : List Int) (n : Int) : List Int := byts (l.headD 0 % n).toNat l
theorem someB_b8 (l : List Int) (n : Int) : B8 (someB l n) := byts_b8 _ _
theorem someB_len (l : List Int) (n : Int) (hn : 0 < n) (hn' : n ≤ 1000000) : (someB l n).length < n.toNat := by
  have h1 := Int.emod_lt_of_pos (l.headD 0) hn
  have h0 := Int.emod_nonneg (l.headD 0) (by omega : n ≠ 0)
  unfold someB
  rw [byts_len]; omega

theorem some_ok (l : List Int) (n : Int) (hn : 0 < n) (hn' : n < 1000000) (s : Value) (H : AH) (Q : Value → AH → Prop) (hs : Ints H s l)
    (hq : ∀ v H', OwnB H.n H' v (someB l n) → HExt H H' → Q v H') : Got (xc Try.prog tab 13 [s, .int .i64 n] H) Q := by
  refine got_call (res := [.tmp 4]) rfl ?_
  have e2 := ints_len hs
  have h1 := Int.emod_lt_of_pos (l.headD 0) hn
  have h0 := Int.emod_nonneg (l.headD 0) (by omega : n ≠ 0)
  cases l with
  | nil =>
    have c1 : ¬ (([] : List Int).length : Int) > 0 := by simp
    simp only [ofArgs, run_seq, run_block, run_ops, run_skip, run_exit, run_ret, thenQ_normal, thenQ_exit, thenQ_ret, blockQ_normal, blockQ_exit, blockQ_ret, retQ_ret, retQ_normal, ops_nil, ops_none, got_some, ops_wT, ops_wTn, ops_wF, ops_wFn, ops_wU, dops_wT, dops_wTn, dops_wF, dops_wFn, dops_wU, run_condT, run_condF, alt2_int, altB_bool, altI_int, altBB_bool, v_min, v_max, v_not, v_neg, optEv_none, optEv_some, isSome'_none, isSome'_some, pExt0, pExt1, pExt2, Bool.false_and, Bool.true_and, Bool.not_true, Bool.not_false, cond_true, cond_false, dops_nil, dops_none, xval_call, v_mov, v_bin, v_len, v_ext, v_idxA, v_ld, v_st, v_app, v_appN, v_cvs, v_bs1, pBs1, v_slc, v_conv, v_fld, v_fldA, v_new, v_box, v_mks, v_copy, v_isnil, v_nilck, v_pick, ev, evs_nil, evs_cons, fr_get_cons, fr_put_nil, fr_put_cons, fr_put_some, fr_put_none, fr_keep_nil, fr_keep_cons, fr_has_nil, fr_has_cons, Option.bind_some, Option.map_some, xbin, ibin, xresult_eq, xress_nil, xress_tmp, resV, ex_some, if_true, if_false, ite_true, ite_false, reduceIte, reduceCtorEq, Nat.reduceEqDiff, Nat.reduceLT, Nat.reduceLeDiff, Int.reduceLT, Int.reduceLE, Nat.zero_add, Nat.reduceAdd, Bool.false_eq_true, decide_eq_true_eq, decide_eq_false_iff_not, true_implies, false_implies, and_true, true_and, e2, c1, decide_false]
    have hb := Bytes_ok [] 0 (by omega) s H
    refine hb _ hs ?_
    intro v H' ho hx
    exact hq v H' (by simpa [someB] using ho) hx
  | cons x r =>
    have c1 : (((x :: r).length : Int) > 0) := by simp <;> omega
    have e3 := ints_idx hs 0 0 rfl (by simp)
    have e4 := ints_ld hs 0 x rfl
    have e5 := below_xc x n H hn hn'
    simp only [ofArgs, run_seq, run_block, run_ops, run_skip, run_exit, run_ret, thenQ_normal, thenQ_exit, thenQ_ret, blockQ_normal, blockQ_exit, blockQ_ret, retQ_ret, retQ_normal, ops_nil, ops_none, got_some, ops_wT, ops_wTn, ops_wF, ops_wFn, ops_wU, dops_wT, dops_wTn, dops_wF, dops_wFn, dops_wU, run_condT, run_condF, alt2_int, altB_bool, altI_int, altBB_bool, v_min, v_max, v_not, v_neg, optEv_none, optEv_some, isSome'_none, isSome'_some, pExt0, pExt1, pExt2, Bool.false_and, Bool.true_and, Bool.not_true, Bool.not_false, cond_true, cond_false, dops_nil, dops_none, xval_call, v_mov, v_bin, v_len, v_ext, v_idxA, v_ld, v_st, v_app, v_appN, v_cvs, v_bs1, pBs1, v_slc, v_conv, v_fld, v_fldA, v_new, v_box, v_mks, v_copy, v_isnil, v_nilck, v_pick, ev, evs_nil, evs_cons, fr_get_cons, fr_put_nil, fr_put_cons, fr_put_some, fr_put_none, fr_keep_nil, fr_keep_cons, fr_has_nil, fr_has_cons, Option.bind_some, Option.map_some, xbin, ibin, xresult_eq, xress_nil, xress_tmp, resV, ex_some, if_true, if_false, ite_true, ite_false, reduceIte, reduceCtorEq, Nat.reduceEqDiff, Nat.reduceLT, Nat.reduceLeDiff, Int.reduceLT, Int.reduceLE, Nat.zero_add, Nat.reduceAdd, Bool.false_eq_true, decide_eq_true_eq, decide_eq_false_iff_not, true_implies, false_implies, and_true, true_and, e2, c1, decide_true, e3, e4, e5]
    simp only [List.headD_cons] at h0 h1
    have ek : x % n = (((x % n).toNat : Nat) : Int) := by omega
    rw [ek]
    refine Bytes_ok (x :: r) (x % n).toNat (by omega) s H _ hs ?_
    intro v H' ho hx
    exact hq v H' ho hx
end Go.Proofs.Ytejedmocjdcdgaa.D
