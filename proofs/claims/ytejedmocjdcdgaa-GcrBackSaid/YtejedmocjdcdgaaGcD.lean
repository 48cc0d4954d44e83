/- What functions that the law reaches compute, on a heap of the run's own: the conditions stand in each theorem. -/
import Derived.Test.YtejedmocjdcdgaaGcC
set_option linter.unusedSimpArgs false
set_option linter.unusedVariables false
namespace Go.Proofs.Ytejedmocjdcdgaa.D
open Go Go.Det

theorem gbits5_01 (n : Nat) (hn : n < 16) : (∀ x ∈ b01 (gbits (codeAt n) 5), 0 ≤ x ∧ x ≤ 1) := by
  revert n; decide
theorem gr_round (v8 v11 v12 : Value) (q : List Bool) (i c : Int) (k n : Nat) (H : AH) (Q : XExit → Fr → AH → Prop) (h8 : Ints H v8 (b01 q)) (h12 : Ints H v12 CODES) (hn : n < 16) (hk : k + 5 ≤ q.length) (hkl : q.length ≤ 30000) (hki : (k : Int) < i + 10) (hi0 : 0 ≤ i) (hi1 : i ≤ 30000) (hc0 : 0 ≤ c) (hc1 : c < 16)
    (hg : (q.drop k).take 5 = gbits (codeAt n) 5)
    (hq : Run Try.prog tab (.loop xgcr_Read_l2) [(8, v8), (11, v11), (12, v12), (13, .int .i64 i), (14, .int .i64 (c * 16 + n)), (15, .int .i64 ((k + 5 : Nat) : Int))] H Q) :
    Run Try.prog tab (.loop xgcr_Read_l2) [(8, v8), (11, v11), (12, v12), (13, .int .i64 i), (14, .int .i64 c), (15, .int .i64 k)] H Q := by
  rw [run_loop]
  generalize hL : XCode.loop xgcr_Read_l2 = L
  rw [hL] at hq
  have w1 := wrI (i + 10) (by omega) (by omega)
  have w2 : IntKind.i64.wrap ((k : Int) + 5) = ((k + 5 : Nat) : Int) := by rw [wrI _ (by omega) (by omega)]; omega
  obtain ⟨s', k1, k2, k3, k4⟩ := xslc_ok (lo := some (.int .i64 (k : Int))) (hi := some (.int .i64 ((k + 5 : Nat) : Int))) (i := k) (h := k + 5) h8 rfl rfl (by omega) (by rw [b01_len]; exact hk)
  have h5 : (b01 (gbits (codeAt n) 5)).length = 5 := by rw [b01_len, gbits_len]
  have k2' : Ints H s' (b01 (gbits (codeAt n) 5)) := by
    unfold Ints
    rw [h5, ← hg]
    have e : k + 5 - k = 5 := by omega
    rw [e] at k2
    simpa [b01, List.map_take, List.map_drop] using k2
  have e1 := ints_len k2'
  rw [h5] at e1
  have e2 := index_xc v12 CODES (codeAt n : Int) H h12 (by decide)
  rw [idx_code n hn] at e2
  have c1 : ¬ (n : Int) < 0 := by omega
  have w3 := wrI (c * 16) (by omega) (by omega)
  have w4 := wrI (c * 16 + n) (by omega) (by omega)
  have n5 : (((5 : Nat)) : Int) = 5 := rfl
  rw [n5] at e1
  simp only [xgcr_Read_l2, ofArgs, run_seq, run_block, run_ops, run_skip, run_exit, run_ret, thenQ_normal, thenQ_exit, thenQ_ret, blockQ_normal, blockQ_exit, blockQ_ret, retQ_ret, retQ_normal, ops_nil, ops_none, got_some, ops_wT, ops_wTn, ops_wF, ops_wFn, ops_wU, dops_wT, dops_wTn, dops_wF, dops_wFn, dops_wU, run_condT, run_condF, alt2_int, altB_bool, altI_int, altBB_bool, v_min, v_max, v_not, v_neg, optEv_none, optEv_some, isSome'_none, isSome'_some, pExt0, pExt1, pExt2, Bool.false_and, Bool.true_and, Bool.not_true, Bool.not_false, cond_true, cond_false, dops_nil, dops_none, xval_call, v_mov, v_bin, v_len, v_ext, v_idxA, v_ld, v_st, v_app, v_appN, v_cvs, v_bs1, pBs1, v_slc, v_conv, v_fld, v_fldA, v_new, v_box, v_mks, v_copy, v_isnil, v_nilck, v_pick, ev, evs_nil, evs_cons, fr_get_cons, fr_put_nil, fr_put_cons, fr_put_some, fr_put_none, fr_keep_nil, fr_keep_cons, fr_has_nil, fr_has_cons, Option.bind_some, Option.map_some, xbin, ibin, xresult_eq, xress_nil, xress_tmp, resV, ex_some, if_true, if_false, ite_true, ite_false, reduceIte, reduceCtorEq, Nat.reduceEqDiff, Nat.reduceLT, Nat.reduceLeDiff, Int.reduceLT, Int.reduceLE, Nat.zero_add, Nat.reduceAdd, Bool.false_eq_true, decide_eq_true_eq, decide_eq_false_iff_not, true_implies, false_implies, and_true, true_and, w1, hki, decide_true, w2, k1, e1]
  refine gr_l1 v8 v11 v12 s' i c k H (b01 (gbits (codeAt n) 5)) [] 0 0 5 _ (by simpa using k2') (gbits5_01 n hn) (by omega) (by omega) (by rw [h5]; decide) (by simp [h5]) rfl (by simp [h5]) ?_
  rw [val_code n hn]
  simp only [ofArgs, run_seq, run_block, run_ops, run_skip, run_exit, run_ret, thenQ_normal, thenQ_exit, thenQ_ret, blockQ_normal, blockQ_exit, blockQ_ret, retQ_ret, retQ_normal, ops_nil, ops_none, got_some, ops_wT, ops_wTn, ops_wF, ops_wFn, ops_wU, dops_wT, dops_wTn, dops_wF, dops_wFn, dops_wU, run_condT, run_condF, alt2_int, altB_bool, altI_int, altBB_bool, v_min, v_max, v_not, v_neg, optEv_none, optEv_some, isSome'_none, isSome'_some, pExt0, pExt1, pExt2, Bool.false_and, Bool.true_and, Bool.not_true, Bool.not_false, cond_true, cond_false, dops_nil, dops_none, xval_call, v_mov, v_bin, v_len, v_ext, v_idxA, v_ld, v_st, v_app, v_appN, v_cvs, v_bs1, pBs1, v_slc, v_conv, v_fld, v_fldA, v_new, v_box, v_mks, v_copy, v_isnil, v_nilck, v_pick, ev, evs_nil, evs_cons, fr_get_cons, fr_put_nil, fr_put_cons, fr_put_some, fr_put_none, fr_keep_nil, fr_keep_cons, fr_has_nil, fr_has_cons, Option.bind_some, Option.map_some, xbin, ibin, xresult_eq, xress_nil, xress_tmp, resV, ex_some, if_true, if_false, ite_true, ite_false, reduceIte, reduceCtorEq, Nat.reduceEqDiff, Nat.reduceLT, Nat.reduceLeDiff, Int.reduceLT, Int.reduceLE, Nat.zero_add, Nat.reduceAdd, Bool.false_eq_true, decide_eq_true_eq, decide_eq_false_iff_not, true_implies, false_implies, and_true, true_and, e2, c1, w3, w4, w2, decide_false]
  exact hq
theorem gr_stop (v8 v11 v12 : Value) (i c k : Int) (H : AH) (Q : XExit → Fr → AH → Prop) (hki : k = i + 10) (hi0 : 0 ≤ i) (hi1 : i ≤ 30000)
    (hq : Q (.exit 4) [(8, v8), (11, v11), (12, v12), (13, .int .i64 i), (14, .int .i64 c), (15, .int .i64 k), (70, .bool false)] H) :
    Run Try.prog tab (.loop xgcr_Read_l2) [(8, v8), (11, v11), (12, v12), (13, .int .i64 i), (14, .int .i64 c), (15, .int .i64 k)] H Q := by
  rw [run_loop]
  generalize hL : XCode.loop xgcr_Read_l2 = L
  have w1 := wrI (i + 10) (by omega) (by omega)
  have c1 : ¬ k < i + 10 := by omega
  simp only [xgcr_Read_l2, ofArgs, run_seq, run_block, run_ops, run_skip, run_exit, run_ret, thenQ_normal, thenQ_exit, thenQ_ret, blockQ_normal, blockQ_exit, blockQ_ret, retQ_ret, retQ_normal, ops_nil, ops_none, got_some, ops_wT, ops_wTn, ops_wF, ops_wFn, ops_wU, dops_wT, dops_wTn, dops_wF, dops_wFn, dops_wU, run_condT, run_condF, alt2_int, altB_bool, altI_int, altBB_bool, v_min, v_max, v_not, v_neg, optEv_none, optEv_some, isSome'_none, isSome'_some, pExt0, pExt1, pExt2, Bool.false_and, Bool.true_and, Bool.not_true, Bool.not_false, cond_true, cond_false, dops_nil, dops_none, xval_call, v_mov, v_bin, v_len, v_ext, v_idxA, v_ld, v_st, v_app, v_appN, v_cvs, v_bs1, pBs1, v_slc, v_conv, v_fld, v_fldA, v_new, v_box, v_mks, v_copy, v_isnil, v_nilck, v_pick, ev, evs_nil, evs_cons, fr_get_cons, fr_put_nil, fr_put_cons, fr_put_some, fr_put_none, fr_keep_nil, fr_keep_cons, fr_has_nil, fr_has_cons, Option.bind_some, Option.map_some, xbin, ibin, xresult_eq, xress_nil, xress_tmp, resV, ex_some, if_true, if_false, ite_true, ite_false, reduceIte, reduceCtorEq, Nat.reduceEqDiff, Nat.reduceLT, Nat.reduceLeDiff, Int.reduceLT, Int.reduceLE, Nat.zero_add, Nat.reduceAdd, Bool.false_eq_true, decide_eq_true_eq, decide_eq_false_iff_not, true_implies, false_implies, and_true, true_and, w1, c1, decide_false]
  exact hq
theorem gr_l2 (v8 v11 v12 : Value) (q : List Bool) (k c : Nat) (H : AH) (Q : XExit → Fr → AH → Prop) (h8 : Ints H v8 (b01 q)) (h12 : Ints H v12 CODES) (hc : c < 256) (hk : k + 10 ≤ q.length) (hkl : q.length ≤ 30000)
    (hg : (q.drop k).take 10 = gbits (grp c) 10)
    (hq : Q (.exit 4) [(8, v8), (11, v11), (12, v12), (13, .int .i64 k), (14, .int .i64 c), (15, .int .i64 ((k + 5 + 5 : Nat) : Int)), (70, .bool false)] H) :
    Run Try.prog tab (.loop xgcr_Read_l2) [(8, v8), (11, v11), (12, v12), (13, .int .i64 k), (14, .int .i64 0), (15, .int .i64 k)] H Q := by
  rw [grp_split c hc] at hg
  have g1 : (q.drop k).take 5 = gbits (codeAt (c / 16)) 5 := by
    have := congrArg (List.take 5) hg
    rw [List.take_take, List.take_left' (gbits_len _ _)] at this
    simpa using this
  have g2 : (q.drop (k + 5)).take 5 = gbits (codeAt (c % 16)) 5 := by
    have := congrArg (List.drop 5) hg
    rw [List.drop_left' (gbits_len _ _), List.drop_take, List.drop_drop] at this
    simpa using this
  refine gr_round v8 v11 v12 q k 0 k (c / 16) H Q h8 h12 (by omega) (by omega) hkl (by omega) (by omega) (by omega) (by omega) (by omega) g1 ?_
  refine gr_round v8 v11 v12 q k _ (k + 5) (c % 16) H Q h8 h12 (by omega) (by omega) hkl (by omega) (by omega) (by omega) (by omega) (by omega) g2 ?_
  have e : (0 * 16 + ((c / 16 : Nat) : Int)) * 16 + ((c % 16 : Nat) : Int) = (c : Int) := by omega
  rw [e]
  exact gr_stop v8 v11 v12 k c _ H Q (by omega) (by omega) (by omega) hq

theorem gr_l3 (n0 : Nat) (v8 v12 : Value) (h8b : ∀ b, inB v8 b → b < n0) (h12b : ∀ b, inB v12 b → b < n0) (q : List Bool) (hkl : q.length ≤ 30000) (rest : List Int) : ∀ (k : Nat) (out : List Int) (v : Value) (H : AH) (i : Int) (Q : XExit → Fr → AH → Prop), Ints H v8 (b01 q) → Ints H v12 CODES → B8 rest → q.drop k = qb rest → k ≤ q.length → OwnB n0 H v out → n0 ≤ H.n → out.length + rest.length ≤ 100000 → i = (k : Int) →
    (∀ v' H' j, OwnB n0 H' v' (out ++ rest) → Keep n0 H H' → Q (.exit 2) [(8, v8), (11, v'), (12, v12), (13, .int .i64 j), (63, .bool false)] H') →
    Run Try.prog tab (.loop xgcr_Read_l3) [(8, v8), (11, v), (12, v12), (13, .int .i64 i)] H Q := by
  induction rest with
  | nil =>
    intro k out v H i Q h8 h12 hb hd hkq ho hn hol hi hq
    subst hi
    rw [run_loop]
    generalize hL : XCode.loop xgcr_Read_l3 = L
    have e1 := ints_len h8
    have hlen := congrArg List.length hd
    rw [List.length_drop, qb_len] at hlen
    have hf : ¬ (k : Int) < ((b01 q).length : Int) := by rw [b01_len]; simp at hlen; omega
    simp only [xgcr_Read_l3, ofArgs, run_seq, run_block, run_ops, run_skip, run_exit, run_ret, thenQ_normal, thenQ_exit, thenQ_ret, blockQ_normal, blockQ_exit, blockQ_ret, retQ_ret, retQ_normal, ops_nil, ops_none, got_some, ops_wT, ops_wTn, ops_wF, ops_wFn, ops_wU, dops_wT, dops_wTn, dops_wF, dops_wFn, dops_wU, run_condT, run_condF, alt2_int, altB_bool, altI_int, altBB_bool, v_min, v_max, v_not, v_neg, optEv_none, optEv_some, isSome'_none, isSome'_some, pExt0, pExt1, pExt2, Bool.false_and, Bool.true_and, Bool.not_true, Bool.not_false, cond_true, cond_false, dops_nil, dops_none, xval_call, v_mov, v_bin, v_len, v_ext, v_idxA, v_ld, v_st, v_app, v_appN, v_cvs, v_bs1, pBs1, v_slc, v_conv, v_fld, v_fldA, v_new, v_box, v_mks, v_copy, v_isnil, v_nilck, v_pick, ev, evs_nil, evs_cons, fr_get_cons, fr_put_nil, fr_put_cons, fr_put_some, fr_put_none, fr_keep_nil, fr_keep_cons, fr_has_nil, fr_has_cons, Option.bind_some, Option.map_some, xbin, ibin, xresult_eq, xress_nil, xress_tmp, resV, ex_some, if_true, if_false, ite_true, ite_false, reduceIte, reduceCtorEq, Nat.reduceEqDiff, Nat.reduceLT, Nat.reduceLeDiff, Int.reduceLT, Int.reduceLE, Nat.zero_add, Nat.reduceAdd, Bool.false_eq_true, decide_eq_true_eq, decide_eq_false_iff_not, true_implies, false_implies, and_true, true_and, e1, hf, decide_false]
    exact hq v H k (by simpa using ho) (.refl _ _)
  | cons a rest ih =>
    intro k out v H i Q h8 h12 hb hd hkq ho hn hol hi hq
    subst hi
    simp only [List.length_cons] at hol
    have ha := hb a (by simp)
    obtain ⟨c, rfl⟩ : ∃ c : Nat, a = (c : Int) := ⟨a.toNat, by omega⟩
    rw [run_loop]
    generalize hL : XCode.loop xgcr_Read_l3 = L
    have e1 := ints_len h8
    have hlen := congrArg List.length hd
    rw [List.length_drop, qb_len, List.length_cons] at hlen
    have hlt : (k : Int) < ((b01 q).length : Int) := by rw [b01_len]; omega
    have w1 := wrI ((k : Int) + 10) (by omega) (by omega)
    have wc := wrU8' (c : Int) (by omega) (by omega)
    have hd1 : (q.drop k).take 10 = gbits (grp c) 10 := by
      rw [hd]; simp only [qb, Int.toNat_natCast]
      exact List.take_left' (gbits_len _ _)
    have hd2 : q.drop (k + 10) = qb rest := by
      rw [← List.drop_drop, hd]; simp only [qb]
      exact List.drop_left' (gbits_len _ _)
    simp only [xgcr_Read_l3, ofArgs, run_seq, run_block, run_ops, run_skip, run_exit, run_ret, thenQ_normal, thenQ_exit, thenQ_ret, blockQ_normal, blockQ_exit, blockQ_ret, retQ_ret, retQ_normal, ops_nil, ops_none, got_some, ops_wT, ops_wTn, ops_wF, ops_wFn, ops_wU, dops_wT, dops_wTn, dops_wF, dops_wFn, dops_wU, run_condT, run_condF, alt2_int, altB_bool, altI_int, altBB_bool, v_min, v_max, v_not, v_neg, optEv_none, optEv_some, isSome'_none, isSome'_some, pExt0, pExt1, pExt2, Bool.false_and, Bool.true_and, Bool.not_true, Bool.not_false, cond_true, cond_false, dops_nil, dops_none, xval_call, v_mov, v_bin, v_len, v_ext, v_idxA, v_ld, v_st, v_app, v_appN, v_cvs, v_bs1, pBs1, v_slc, v_conv, v_fld, v_fldA, v_new, v_box, v_mks, v_copy, v_isnil, v_nilck, v_pick, ev, evs_nil, evs_cons, fr_get_cons, fr_put_nil, fr_put_cons, fr_put_some, fr_put_none, fr_keep_nil, fr_keep_cons, fr_has_nil, fr_has_cons, Option.bind_some, Option.map_some, xbin, ibin, xresult_eq, xress_nil, xress_tmp, resV, ex_some, if_true, if_false, ite_true, ite_false, reduceIte, reduceCtorEq, Nat.reduceEqDiff, Nat.reduceLT, Nat.reduceLeDiff, Int.reduceLT, Int.reduceLE, Nat.zero_add, Nat.reduceAdd, Bool.false_eq_true, decide_eq_true_eq, decide_eq_false_iff_not, true_implies, false_implies, and_true, true_and, e1, hlt, decide_true]
    refine gr_l2 v8 v v12 q k c H _ h8 h12 (by omega) (by omega) hkl hd1 ?_
    simp only [ofArgs, run_seq, run_block, run_ops, run_skip, run_exit, run_ret, thenQ_normal, thenQ_exit, thenQ_ret, blockQ_normal, blockQ_exit, blockQ_ret, retQ_ret, retQ_normal, ops_nil, ops_none, got_some, ops_wT, ops_wTn, ops_wF, ops_wFn, ops_wU, dops_wT, dops_wTn, dops_wF, dops_wFn, dops_wU, run_condT, run_condF, alt2_int, altB_bool, altI_int, altBB_bool, v_min, v_max, v_not, v_neg, optEv_none, optEv_some, isSome'_none, isSome'_some, pExt0, pExt1, pExt2, Bool.false_and, Bool.true_and, Bool.not_true, Bool.not_false, cond_true, cond_false, dops_nil, dops_none, xval_call, v_mov, v_bin, v_len, v_ext, v_idxA, v_ld, v_st, v_app, v_appN, v_cvs, v_bs1, pBs1, v_slc, v_conv, v_fld, v_fldA, v_new, v_box, v_mks, v_copy, v_isnil, v_nilck, v_pick, ev, evs_nil, evs_cons, fr_get_cons, fr_put_nil, fr_put_cons, fr_put_some, fr_put_none, fr_keep_nil, fr_keep_cons, fr_has_nil, fr_has_cons, Option.bind_some, Option.map_some, xbin, ibin, xresult_eq, xress_nil, xress_tmp, resV, ex_some, if_true, if_false, ite_true, ite_false, reduceIte, reduceCtorEq, Nat.reduceEqDiff, Nat.reduceLT, Nat.reduceLeDiff, Int.reduceLT, Int.reduceLE, Nat.zero_add, Nat.reduceAdd, Bool.false_eq_true, decide_eq_true_eq, decide_eq_false_iff_not, true_implies, false_implies, and_true, true_and, pConv, wc]
    refine app_oneB ho hn (by omega) fun v' H' ho' hs' => ?_
    have hk := hs'.keep ho hn
    simp only [ofArgs, run_seq, run_block, run_ops, run_skip, run_exit, run_ret, thenQ_normal, thenQ_exit, thenQ_ret, blockQ_normal, blockQ_exit, blockQ_ret, retQ_ret, retQ_normal, ops_nil, ops_none, got_some, ops_wT, ops_wTn, ops_wF, ops_wFn, ops_wU, dops_wT, dops_wTn, dops_wF, dops_wFn, dops_wU, run_condT, run_condF, alt2_int, altB_bool, altI_int, altBB_bool, v_min, v_max, v_not, v_neg, optEv_none, optEv_some, isSome'_none, isSome'_some, pExt0, pExt1, pExt2, Bool.false_and, Bool.true_and, Bool.not_true, Bool.not_false, cond_true, cond_false, dops_nil, dops_none, xval_call, v_mov, v_bin, v_len, v_ext, v_idxA, v_ld, v_st, v_app, v_appN, v_cvs, v_bs1, pBs1, v_slc, v_conv, v_fld, v_fldA, v_new, v_box, v_mks, v_copy, v_isnil, v_nilck, v_pick, ev, evs_nil, evs_cons, fr_get_cons, fr_put_nil, fr_put_cons, fr_put_some, fr_put_none, fr_keep_nil, fr_keep_cons, fr_has_nil, fr_has_cons, Option.bind_some, Option.map_some, xbin, ibin, xresult_eq, xress_nil, xress_tmp, resV, ex_some, if_true, if_false, ite_true, ite_false, reduceIte, reduceCtorEq, Nat.reduceEqDiff, Nat.reduceLT, Nat.reduceLeDiff, Int.reduceLT, Int.reduceLE, Nat.zero_add, Nat.reduceAdd, Bool.false_eq_true, decide_eq_true_eq, decide_eq_false_iff_not, true_implies, false_implies, and_true, true_and, w1]
    subst hL
    refine ih (k + 10) (out ++ [(c : Int)]) v' H' _ Q (Ints.keep h8 hk h8b) (Ints.keep h12 hk h12b) (fun b h => hb b (by simp [h])) hd2 (by omega) ho' (by have := hk.1; omega) (by simp; omega) (by omega) ?_
    intro v2 H2 j o2 k2
    exact hq v2 H2 j (by simpa using o2) (hk.trans k2)

theorem b01_take (q : List Bool) (x : Bool) : (b01 (q ++ [x])).take q.length = b01 q := by
  rw [b01_app, List.take_left' (b01_len q)]
theorem gcrRead_ok (a w : List Int) (cell : Int) (s : Value) (H : AH) (Q : Value → AH → Prop) (hs : Ints H s w) (hb : B8 a) (hl : a.length ≤ 1000) (h2 : 2 ≤ cell) (h3 : cell ≤ 1000) (hok : Ok w) (hw : w.map (celOf cell) = (gaps (gfull a)).1)
    (hq : ∀ v H', OwnB H.n H' v a → HExt H H' → Q (.tuple [v, .int .i64 0].toArray) H') : Got (xc Try.prog tab 17 [s, .int .i64 cell] H) Q := by
  refine got_call (res := [.tmp 4, .tmp 5]) rfl ?_
  have gb := gfull_gb a hb
  have glen := (gaps_len (gfull a)).1
  have hlg : (gfull a).length = 10 * a.length + 1 := by simp [gfull, qb_len]
  have hlw : w.length ≤ 40000 := by
    have := congrArg List.length hw
    simp at this; omega
  have hex : expand (gaps (gfull a)).1 = qb a ++ [true] := by
    have := expand_gaps (gfull a)
    rw [gb.2] at this
    simpa [gfull] using this
  simp only [ofArgs, run_seq, run_block, run_ops, run_skip, run_exit, run_ret, thenQ_normal, thenQ_exit, thenQ_ret, blockQ_normal, blockQ_exit, blockQ_ret, retQ_ret, retQ_normal, ops_nil, ops_none, got_some, ops_wT, ops_wTn, ops_wF, ops_wFn, ops_wU, dops_wT, dops_wTn, dops_wF, dops_wFn, dops_wU, run_condT, run_condF, alt2_int, altB_bool, altI_int, altBB_bool, v_min, v_max, v_not, v_neg, optEv_none, optEv_some, isSome'_none, isSome'_some, pExt0, pExt1, pExt2, Bool.false_and, Bool.true_and, Bool.not_true, Bool.not_false, cond_true, cond_false, dops_nil, dops_none, xval_call, v_mov, v_bin, v_len, v_ext, v_idxA, v_ld, v_st, v_app, v_appN, v_cvs, v_bs1, pBs1, v_slc, v_conv, v_fld, v_fldA, v_new, v_box, v_mks, v_copy, v_isnil, v_nilck, v_pick, ev, evs_nil, evs_cons, fr_get_cons, fr_put_nil, fr_put_cons, fr_put_some, fr_put_none, fr_keep_nil, fr_keep_cons, fr_has_nil, fr_has_cons, Option.bind_some, Option.map_some, xbin, ibin, xresult_eq, xress_nil, xress_tmp, resV, ex_some, if_true, if_false, ite_true, ite_false, reduceIte, reduceCtorEq, Nat.reduceEqDiff, Nat.reduceLT, Nat.reduceLeDiff, Int.reduceLT, Int.reduceLE, Nat.zero_add, Nat.reduceAdd, Bool.false_eq_true, decide_eq_true_eq, decide_eq_false_iff_not, true_implies, false_implies, and_true, true_and]
  refine cells_ok w cell 3 s H _ hs hlw h2 h3 (by omega) hok ?_ ?_
  · intro p hp
    have h1 : celOf cell p ∈ w.map (celOf cell) := List.mem_map_of_mem hp
    rw [hw] at h1
    exact gb.1 _ h1
  rw [hw]
  intro v1 H1 o1 x1
  have e1 := ints_len o1.ints
  have be : ((0 : Int) != 0) = false := rfl
  simp only [ofArgs, run_seq, run_block, run_ops, run_skip, run_exit, run_ret, thenQ_normal, thenQ_exit, thenQ_ret, blockQ_normal, blockQ_exit, blockQ_ret, retQ_ret, retQ_normal, ops_nil, ops_none, got_some, ops_wT, ops_wTn, ops_wF, ops_wFn, ops_wU, dops_wT, dops_wTn, dops_wF, dops_wFn, dops_wU, run_condT, run_condF, alt2_int, altB_bool, altI_int, altBB_bool, v_min, v_max, v_not, v_neg, optEv_none, optEv_some, isSome'_none, isSome'_some, pExt0, pExt1, pExt2, Bool.false_and, Bool.true_and, Bool.not_true, Bool.not_false, cond_true, cond_false, dops_nil, dops_none, xval_call, v_mov, v_bin, v_len, v_ext, v_idxA, v_ld, v_st, v_app, v_appN, v_cvs, v_bs1, pBs1, v_slc, v_conv, v_fld, v_fldA, v_new, v_box, v_mks, v_copy, v_isnil, v_nilck, v_pick, ev, evs_nil, evs_cons, fr_get_cons, fr_put_nil, fr_put_cons, fr_put_some, fr_put_none, fr_keep_nil, fr_keep_cons, fr_has_nil, fr_has_cons, Option.bind_some, Option.map_some, xbin, ibin, xresult_eq, xress_nil, xress_tmp, resV, ex_some, if_true, if_false, ite_true, ite_false, reduceIte, reduceCtorEq, Nat.reduceEqDiff, Nat.reduceLT, Nat.reduceLeDiff, Int.reduceLT, Int.reduceLE, Nat.zero_add, Nat.reduceAdd, Bool.false_eq_true, decide_eq_true_eq, decide_eq_false_iff_not, true_implies, false_implies, and_true, true_and, e1, be]
  refine gr_l0 H1.n v1 (gaps (gfull a)).1 [] [] _ H1 0 _ _ o1.ints (fun b hb => o1.ints.lt b hb) (Own.nil H1.n 1 H1) (Nat.le_refl _) gb.1 (by simp; omega) (by simp; omega) (by simp) (by simp) ?_
  rw [hex, List.nil_append]
  intro v2 H2 o2 k2
  have e2 := ints_len o2.ints
  have hl2 : (b01 (qb a ++ [true])).length = 10 * a.length + 1 := by rw [b01_len, List.length_append, qb_len]; rfl
  rw [hl2] at e2
  have c1 : (((10 * a.length + 1 : Nat) : Int) == 0) = false := by simp; omega
  have w1 : IntKind.i64.wrap (((10 * a.length + 1 : Nat) : Int) - 1) = ((10 * a.length : Nat) : Int) := by rw [wrI _ (by omega) (by omega)]; omega
  obtain ⟨s', k1, s2, s3, s4⟩ := xslc_ok (lo := none) (hi := some (.int .i64 ((10 * a.length : Nat) : Int))) (i := 0) (h := 10 * a.length) o2.1 rfl rfl (Nat.zero_le _) (by rw [hl2]; omega)
  have hq8 : Ints H2 s' (b01 (qb a)) := by
    unfold Ints
    have e : (b01 (qb a)).length = 10 * a.length := by rw [b01_len, qb_len]
    rw [e]
    have e2 : ((b01 (qb a ++ [true])).map (Value.int .i64)).take (10 * a.length) = (b01 (qb a)).map (.int .i64) := by
      rw [← List.map_take, ← qb_len a, b01_take]
    rw [← e2]
    simpa using s2
  have e3 := ints_len hq8
  rw [b01_len, qb_len] at e3
  have c2 : ((((10 * a.length : Nat) : Int)).tmod 10 != 0) = false := by
    have : (((10 * a.length : Nat) : Int)).tmod 10 = 0 := by
      rw [Int.tmod_eq_emod_of_nonneg (by omega)]; omega
    rw [this]; rfl
  have c3 : ¬ ((10 * a.length : Nat) : Int) > 20000 := by omega
  have c10 : ¬ ((10 : Int) = 0) := by decide
  simp only [ofArgs, run_seq, run_block, run_ops, run_skip, run_exit, run_ret, thenQ_normal, thenQ_exit, thenQ_ret, blockQ_normal, blockQ_exit, blockQ_ret, retQ_ret, retQ_normal, ops_nil, ops_none, got_some, ops_wT, ops_wTn, ops_wF, ops_wFn, ops_wU, dops_wT, dops_wTn, dops_wF, dops_wFn, dops_wU, run_condT, run_condF, alt2_int, altB_bool, altI_int, altBB_bool, v_min, v_max, v_not, v_neg, optEv_none, optEv_some, isSome'_none, isSome'_some, pExt0, pExt1, pExt2, Bool.false_and, Bool.true_and, Bool.not_true, Bool.not_false, cond_true, cond_false, dops_nil, dops_none, xval_call, v_mov, v_bin, v_len, v_ext, v_idxA, v_ld, v_st, v_app, v_appN, v_cvs, v_bs1, pBs1, v_slc, v_conv, v_fld, v_fldA, v_new, v_box, v_mks, v_copy, v_isnil, v_nilck, v_pick, ev, evs_nil, evs_cons, fr_get_cons, fr_put_nil, fr_put_cons, fr_put_some, fr_put_none, fr_keep_nil, fr_keep_cons, fr_has_nil, fr_has_cons, Option.bind_some, Option.map_some, xbin, ibin, xresult_eq, xress_nil, xress_tmp, resV, ex_some, if_true, if_false, ite_true, ite_false, reduceIte, reduceCtorEq, Nat.reduceEqDiff, Nat.reduceLT, Nat.reduceLeDiff, Int.reduceLT, Int.reduceLE, Nat.zero_add, Nat.reduceAdd, Bool.false_eq_true, decide_eq_true_eq, decide_eq_false_iff_not, true_implies, false_implies, and_true, true_and, e2, c1, w1, k1, e3, c2, c3, c10, decide_false]
  refine codes_ok H2 _ ?_
  intro vc H3 oc x3
  have q3 := Sl.ext x3 hq8
  refine gr_l3 H3.n s' vc (fun b hb => q3.lt hb) (fun b hb => oc.ints.lt b hb) (qb a) (by rw [qb_len]; omega) a 0 [] _ H3 0 _ q3 oc.ints hb rfl (by omega) (Own.nil H3.n 1 H3) (Nat.le_refl _) (by simp; omega) rfl ?_
  intro v4 H4 j o4 k4
  simp only [ofArgs, run_seq, run_block, run_ops, run_skip, run_exit, run_ret, thenQ_normal, thenQ_exit, thenQ_ret, blockQ_normal, blockQ_exit, blockQ_ret, retQ_ret, retQ_normal, ops_nil, ops_none, got_some, ops_wT, ops_wTn, ops_wF, ops_wFn, ops_wU, dops_wT, dops_wTn, dops_wF, dops_wFn, dops_wU, run_condT, run_condF, alt2_int, altB_bool, altI_int, altBB_bool, v_min, v_max, v_not, v_neg, optEv_none, optEv_some, isSome'_none, isSome'_some, pExt0, pExt1, pExt2, Bool.false_and, Bool.true_and, Bool.not_true, Bool.not_false, cond_true, cond_false, dops_nil, dops_none, xval_call, v_mov, v_bin, v_len, v_ext, v_idxA, v_ld, v_st, v_app, v_appN, v_cvs, v_bs1, pBs1, v_slc, v_conv, v_fld, v_fldA, v_new, v_box, v_mks, v_copy, v_isnil, v_nilck, v_pick, ev, evs_nil, evs_cons, fr_get_cons, fr_put_nil, fr_put_cons, fr_put_some, fr_put_none, fr_keep_nil, fr_keep_cons, fr_has_nil, fr_has_cons, Option.bind_some, Option.map_some, xbin, ibin, xresult_eq, xress_nil, xress_tmp, resV, ex_some, if_true, if_false, ite_true, ite_false, reduceIte, reduceCtorEq, Nat.reduceEqDiff, Nat.reduceLT, Nat.reduceLeDiff, Int.reduceLT, Int.reduceLE, Nat.zero_add, Nat.reduceAdd, Bool.false_eq_true, decide_eq_true_eq, decide_eq_false_iff_not, true_implies, false_implies, and_true, true_and]
  have xx : HExt H H4 := x1.trans (Keep.trans (n0 := H1.n) k2 (Keep.trans (x3.keep (by have := k2.1; omega)) (Keep.le k4 (by have := x3.1; have := k2.1; omega))))
  exact hq v4 H4 (by simpa [OwnB] using o4.le (n0 := H.n) (by have := x1.1; have := k2.1; have := x3.1; omega)) xx
end Go.Proofs.Ytejedmocjdcdgaa.D
