/- What functions that the law reaches compute, on a heap of the run's own: the conditions stand in each theorem. -/
import Derived.Test.YtkhjmmidaihbhaaFxP
set_option linter.unusedSimpArgs false
set_option linter.unusedVariables false
namespace Go.Proofs.Ytkhjmmidaihbhaa.D
open Go Go.Det

set_option maxHeartbeats 4000000 in
theorem FluxSplices_ok (l m : List Int) (at0 : Int) (s1 s2 : Value) (H : AH) (hs1 : Ints H s1 l) (hs2 : Ints H s2 m) : Got (xc Try.prog tab 9 [s1, s2, .int .i64 at0] H) fun v H' => v = .bool true := by
  refine got_call (res := [.tmp 6]) rfl ?_
  simp only [ofArgs, run_seq, run_block, run_ops, run_skip, run_exit, run_ret, thenQ_normal, thenQ_exit, thenQ_ret, blockQ_normal, blockQ_exit, blockQ_ret, retQ_ret, retQ_normal, ops_nil, ops_none, got_some, ops_wT, ops_wTn, ops_wF, ops_wFn, ops_wU, dops_wT, dops_wTn, dops_wF, dops_wFn, dops_wU, run_condT, run_condF, alt2_int, altB_bool, altI_int, altBB_bool, v_min, v_max, v_not, v_neg, optEv_none, optEv_some, isSome'_none, isSome'_some, pExt0, pExt1, pExt2, Bool.false_and, Bool.true_and, Bool.not_true, Bool.not_false, cond_true, cond_false, dops_nil, dops_none, xval_call, v_mov, v_bin, v_len, v_ext, v_idxA, v_ld, v_st, v_app, v_appN, v_cvs, v_bs1, pBs1, v_slc, v_conv, v_fld, v_fldA, v_new, v_box, v_mks, v_copy, v_isnil, v_nilck, v_pick, ev, evs_nil, evs_cons, fr_get_cons, fr_put_nil, fr_put_cons, fr_put_some, fr_put_none, fr_keep_nil, fr_keep_cons, fr_has_nil, fr_has_cons, Option.bind_some, Option.map_some, xbin, ibin, xresult_eq, xress_nil, xress_tmp, resV, ex_some, if_true, if_false, ite_true, ite_false, reduceIte, reduceCtorEq, Nat.reduceEqDiff, Nat.reduceLT, Nat.reduceLeDiff, Int.reduceLT, Int.reduceLE, Nat.zero_add, Nat.reduceAdd, Bool.false_eq_true, decide_eq_true_eq, decide_eq_false_iff_not, true_implies, false_implies, and_true, true_and]
  refine track_ok l s1 H _ hs1 ?_
  intro vt H1 ot x1
  refine track_ok m s2 H1 _ (Sl.ext x1 hs2) ?_
  intro vu H2 ou x2
  have lt := trk_len l
  have lu := trk_len m
  have kt : Ok (trk l) := fun p hp => by have := trk_ok l p hp; omega
  have ku : Ok (trk m) := fun p hp => by have := trk_ok m p hp; omega
  generalize trk l = t at ot lt kt
  generalize trk m = u at ou lu ku
  have bt := sum_bnd t kt
  have bu := sum_bnd u ku
  have T2 : Ints H2 vt t := Sl.ext x2 ot.ints
  have U2 : Ints H2 vu u := ou.ints
  have q1 := total_xc t vt H2 T2 (by omega) kt
  have w1 := wrI (t.sum + 1) (by omega) (by omega)
  have hpos : 0 < t.sum + 1 := by omega
  have q2 := below_xc' at0 (t.sum + 1) H2 hpos (by omega)
  have h0 := Int.emod_nonneg at0 (by omega : t.sum + 1 ≠ 0)
  have h1 := Int.emod_lt_of_pos at0 hpos
  have d1 : difs 0 (spl t [] (at0 % (t.sum + 1))) = t := by rw [spl_nil t kt, difs_sums]
  simp only [ofArgs, run_seq, run_block, run_ops, run_skip, run_exit, run_ret, thenQ_normal, thenQ_exit, thenQ_ret, blockQ_normal, blockQ_exit, blockQ_ret, retQ_ret, retQ_normal, ops_nil, ops_none, got_some, ops_wT, ops_wTn, ops_wF, ops_wFn, ops_wU, dops_wT, dops_wTn, dops_wF, dops_wFn, dops_wU, run_condT, run_condF, alt2_int, altB_bool, altI_int, altBB_bool, v_min, v_max, v_not, v_neg, optEv_none, optEv_some, isSome'_none, isSome'_some, pExt0, pExt1, pExt2, Bool.false_and, Bool.true_and, Bool.not_true, Bool.not_false, cond_true, cond_false, dops_nil, dops_none, xval_call, v_mov, v_bin, v_len, v_ext, v_idxA, v_ld, v_st, v_app, v_appN, v_cvs, v_bs1, pBs1, v_slc, v_conv, v_fld, v_fldA, v_new, v_box, v_mks, v_copy, v_isnil, v_nilck, v_pick, ev, evs_nil, evs_cons, fr_get_cons, fr_put_nil, fr_put_cons, fr_put_some, fr_put_none, fr_keep_nil, fr_keep_cons, fr_has_nil, fr_has_cons, Option.bind_some, Option.map_some, xbin, ibin, xresult_eq, xress_nil, xress_tmp, resV, ex_some, if_true, if_false, ite_true, ite_false, reduceIte, reduceCtorEq, Nat.reduceEqDiff, Nat.reduceLT, Nat.reduceLeDiff, Int.reduceLT, Int.reduceLE, Nat.zero_add, Nat.reduceAdd, Bool.false_eq_true, decide_eq_true_eq, decide_eq_false_iff_not, true_implies, false_implies, and_true, true_and, q1, w1, q2]
  refine splice_ok t [] (at0 % (t.sum + 1)) vt _ H2 _ T2 (OwnI.nil 0 H2).ints (by omega) (by simp) kt (by intro p hp; cases hp) h0 (by omega) (by rw [d1]; exact kt) ?_
  rw [d1]
  intro vx H3 ox x3
  have T3 : Ints H3 vt t := Sl.ext x3 T2
  have U3 : Ints H3 vu u := Sl.ext x3 U2
  have n3 := ints_len T3
  obtain ⟨k, hk, hkt⟩ : ∃ k : Nat, (if (t.length : Int) > 0 then at0 % (t.length : Int) else 0) = (k : Int) ∧ k ≤ t.length := by
    by_cases hp : (t.length : Int) > 0
    · have a0 := Int.emod_nonneg at0 (by omega : (t.length : Int) ≠ 0)
      have a1 := Int.emod_lt_of_pos at0 hp
      rw [if_pos hp]
      exact ⟨(at0 % (t.length : Int)).toNat, by omega, by omega⟩
    · rw [if_neg hp]
      exact ⟨0, rfl, by omega⟩
  obtain ⟨s', k1, k2, k3, k4⟩ := xslc_ok (lo := none) (hi := some (.int .i64 (k : Int))) (i := 0) (h := k) T3 rfl rfl (Nat.zero_le _) (by omega)
  have K3 : Ints H3 s' (t.take k) := by
    unfold Ints
    have hlen : (t.take k).length = k := by simp; omega
    rw [hlen]
    simpa [List.map_take] using k2
  have d2 : difs 0 (spl t (t.take k) 0) = t := by rw [spl_own t kt, difs_sums]
  have d3 : difs 0 (spl t u t.sum) = t ++ u := by rw [spl_end t u kt ku, difs_sums]
  have ktu : Ok (t ++ u) := fun p hp => (List.mem_append.1 hp).elim (kt p) (ku p)
  have fin : ∀ (Q : Value → AH → Prop), (∀ vy H4, OwnI H3.n H4 vy t → HExt H3 H4 → Q (.tuple [vy, .int .i64 0].toArray) H4) → Got (xc Try.prog tab 46 [vt, s', .int .i64 0] H3) Q := by
    intro Q hQ
    refine splice_ok t (t.take k) 0 vt s' H3 _ T3 K3 (by omega) (by simp; omega) kt (fun p hp => kt p (List.mem_of_mem_take hp)) (by omega) (by omega) (by rw [d2]; exact kt) ?_
    rw [d2]
    exact hQ
  have rest : ∀ vy H4, OwnI H3.n H4 vy t → HExt H3 H4 → True := fun _ _ _ _ => trivial
  by_cases hp : (t.length : Int) > 0
  · rw [if_pos hp] at hk
    have q3 := below_xc' at0 (t.length : Int) H3 hp (by omega)
    rw [hk] at q3
    simp only [ofArgs, run_seq, run_block, run_ops, run_skip, run_exit, run_ret, thenQ_normal, thenQ_exit, thenQ_ret, blockQ_normal, blockQ_exit, blockQ_ret, retQ_ret, retQ_normal, ops_nil, ops_none, got_some, ops_wT, ops_wTn, ops_wF, ops_wFn, ops_wU, dops_wT, dops_wTn, dops_wF, dops_wFn, dops_wU, run_condT, run_condF, alt2_int, altB_bool, altI_int, altBB_bool, v_min, v_max, v_not, v_neg, optEv_none, optEv_some, isSome'_none, isSome'_some, pExt0, pExt1, pExt2, Bool.false_and, Bool.true_and, Bool.not_true, Bool.not_false, cond_true, cond_false, dops_nil, dops_none, xval_call, v_mov, v_bin, v_len, v_ext, v_idxA, v_ld, v_st, v_app, v_appN, v_cvs, v_bs1, pBs1, v_slc, v_conv, v_fld, v_fldA, v_new, v_box, v_mks, v_copy, v_isnil, v_nilck, v_pick, ev, evs_nil, evs_cons, fr_get_cons, fr_put_nil, fr_put_cons, fr_put_some, fr_put_none, fr_keep_nil, fr_keep_cons, fr_has_nil, fr_has_cons, Option.bind_some, Option.map_some, xbin, ibin, xresult_eq, xress_nil, xress_tmp, resV, ex_some, if_true, if_false, ite_true, ite_false, reduceIte, reduceCtorEq, Nat.reduceEqDiff, Nat.reduceLT, Nat.reduceLeDiff, Int.reduceLT, Int.reduceLE, Nat.zero_add, Nat.reduceAdd, Bool.false_eq_true, decide_eq_true_eq, decide_eq_false_iff_not, true_implies, false_implies, and_true, true_and, n3, hp, decide_true, q3, k1]
    refine fin _ ?_
    intro vy H4 oy x4
    have T4 : Ints H4 vt t := Sl.ext x4 T3
    have q4 := total_xc t vt H4 T4 (by omega) kt
    simp only [ofArgs, run_seq, run_block, run_ops, run_skip, run_exit, run_ret, thenQ_normal, thenQ_exit, thenQ_ret, blockQ_normal, blockQ_exit, blockQ_ret, retQ_ret, retQ_normal, ops_nil, ops_none, got_some, ops_wT, ops_wTn, ops_wF, ops_wFn, ops_wU, dops_wT, dops_wTn, dops_wF, dops_wFn, dops_wU, run_condT, run_condF, alt2_int, altB_bool, altI_int, altBB_bool, v_min, v_max, v_not, v_neg, optEv_none, optEv_some, isSome'_none, isSome'_some, pExt0, pExt1, pExt2, Bool.false_and, Bool.true_and, Bool.not_true, Bool.not_false, cond_true, cond_false, dops_nil, dops_none, xval_call, v_mov, v_bin, v_len, v_ext, v_idxA, v_ld, v_st, v_app, v_appN, v_cvs, v_bs1, pBs1, v_slc, v_conv, v_fld, v_fldA, v_new, v_box, v_mks, v_copy, v_isnil, v_nilck, v_pick, ev, evs_nil, evs_cons, fr_get_cons, fr_put_nil, fr_put_cons, fr_put_some, fr_put_none, fr_keep_nil, fr_keep_cons, fr_has_nil, fr_has_cons, Option.bind_some, Option.map_some, xbin, ibin, xresult_eq, xress_nil, xress_tmp, resV, ex_some, if_true, if_false, ite_true, ite_false, reduceIte, reduceCtorEq, Nat.reduceEqDiff, Nat.reduceLT, Nat.reduceLeDiff, Int.reduceLT, Int.reduceLE, Nat.zero_add, Nat.reduceAdd, Bool.false_eq_true, decide_eq_true_eq, decide_eq_false_iff_not, true_implies, false_implies, and_true, true_and, q4]
    refine splice_ok t u t.sum vt vu H4 _ T4 (Sl.ext x4 U3) (by omega) (by omega) kt ku (by omega) (by omega) (by rw [d3]; exact ktu) ?_
    rw [d3]
    intro vz H5 oz x5
    simp only [ofArgs, run_seq, run_block, run_ops, run_skip, run_exit, run_ret, thenQ_normal, thenQ_exit, thenQ_ret, blockQ_normal, blockQ_exit, blockQ_ret, retQ_ret, retQ_normal, ops_nil, ops_none, got_some, ops_wT, ops_wTn, ops_wF, ops_wFn, ops_wU, dops_wT, dops_wTn, dops_wF, dops_wFn, dops_wU, run_condT, run_condF, alt2_int, altB_bool, altI_int, altBB_bool, v_min, v_max, v_not, v_neg, optEv_none, optEv_some, isSome'_none, isSome'_some, pExt0, pExt1, pExt2, Bool.false_and, Bool.true_and, Bool.not_true, Bool.not_false, cond_true, cond_false, dops_nil, dops_none, xval_call, v_mov, v_bin, v_len, v_ext, v_idxA, v_ld, v_st, v_app, v_appN, v_cvs, v_bs1, pBs1, v_slc, v_conv, v_fld, v_fldA, v_new, v_box, v_mks, v_copy, v_isnil, v_nilck, v_pick, ev, evs_nil, evs_cons, fr_get_cons, fr_put_nil, fr_put_cons, fr_put_some, fr_put_none, fr_keep_nil, fr_keep_cons, fr_has_nil, fr_has_cons, Option.bind_some, Option.map_some, xbin, ibin, xresult_eq, xress_nil, xress_tmp, resV, ex_some, if_true, if_false, ite_true, ite_false, reduceIte, reduceCtorEq, Nat.reduceEqDiff, Nat.reduceLT, Nat.reduceLeDiff, Int.reduceLT, Int.reduceLE, Nat.zero_add, Nat.reduceAdd, Bool.false_eq_true, decide_eq_true_eq, decide_eq_false_iff_not, true_implies, false_implies, and_true, true_and]
    refine times_ok H5 _ ?_
    intro H6 x6
    have X6 : Ints H6 vx t := Sl.ext (x4.trans (x5.trans x6)) ox.ints
    have Y6 : Ints H6 vy t := Sl.ext (x5.trans x6) oy.ints
    have T6 : Ints H6 vt t := Sl.ext (x5.trans x6) T4
    have U6 : Ints H6 vu u := Sl.ext (x4.trans (x5.trans x6)) U3
    have Z6 : Ints H6 vz (t ++ u) := Sl.ext x6 oz.ints
    have r1 := equal_xc t t vx vt H6 X6 T6 (by omega) (by omega)
    have r2 := equal_xc t t vy vt H6 Y6 T6 (by omega) (by omega)
    obtain ⟨p1, p2⟩ := sl_slice T6
    obtain ⟨p3, p4⟩ := sl_slice U6
    have bs : ∀ (fr : Fr) (H : AH), ev fr (.tmp 78) = some vt → ev fr (.tmp 79) = some vu → xval Try.prog (xc Try.prog tab) ⟨some 80, .bslice 48 1 2 [.slice none 0 0] [(0, .tmp 78), (1, .tmp 79)], none⟩ fr H = some (.slice (some ⟨H.n, 0, none⟩) 2 2, H.push ⟨[vt, vu], 1, false, false⟩) :=
      fun fr H h1 h2 => v_bsl2 fr H (some 80) 48 _ vt vu _ _ h1 h2 p1 p2 p3 p4
    simp only [ofArgs, run_seq, run_block, run_ops, run_skip, run_exit, run_ret, thenQ_normal, thenQ_exit, thenQ_ret, blockQ_normal, blockQ_exit, blockQ_ret, retQ_ret, retQ_normal, ops_nil, ops_none, got_some, ops_wT, ops_wTn, ops_wF, ops_wFn, ops_wU, dops_wT, dops_wTn, dops_wF, dops_wFn, dops_wU, run_condT, run_condF, alt2_int, altB_bool, altI_int, altBB_bool, v_min, v_max, v_not, v_neg, optEv_none, optEv_some, isSome'_none, isSome'_some, pExt0, pExt1, pExt2, Bool.false_and, Bool.true_and, Bool.not_true, Bool.not_false, cond_true, cond_false, dops_nil, dops_none, xval_call, v_mov, v_bin, v_len, v_ext, v_idxA, v_ld, v_st, v_app, v_appN, v_cvs, v_bs1, pBs1, v_slc, v_conv, v_fld, v_fldA, v_new, v_box, v_mks, v_copy, v_isnil, v_nilck, v_pick, ev, evs_nil, evs_cons, fr_get_cons, fr_put_nil, fr_put_cons, fr_put_some, fr_put_none, fr_keep_nil, fr_keep_cons, fr_has_nil, fr_has_cons, Option.bind_some, Option.map_some, xbin, ibin, xresult_eq, xress_nil, xress_tmp, resV, ex_some, if_true, if_false, ite_true, ite_false, reduceIte, reduceCtorEq, Nat.reduceEqDiff, Nat.reduceLT, Nat.reduceLeDiff, Int.reduceLT, Int.reduceLE, Nat.zero_add, Nat.reduceAdd, Bool.false_eq_true, decide_eq_true_eq, decide_eq_false_iff_not, true_implies, false_implies, and_true, true_and, r1, r2, bs, decide_true, beq_self_eq_true]
    have px := hext_push H6 ⟨[vt, vu], 1, false, false⟩
    refine concatT_ok t u (by omega) (by omega) _ vt vu _ _ (Sl.pushed H6 [vt, vu] 1 2 false false rfl) (Sl.ext px T6) (Sl.ext px U6) ?_
    intro vc H7 oc x7
    have r3 := equal_xc (t ++ u) (t ++ u) vz vc H7 (Sl.ext (px.trans x7) Z6) oc.ints (by simp; omega) (by simp; omega)
    simp only [ofArgs, run_seq, run_block, run_ops, run_skip, run_exit, run_ret, thenQ_normal, thenQ_exit, thenQ_ret, blockQ_normal, blockQ_exit, blockQ_ret, retQ_ret, retQ_normal, ops_nil, ops_none, got_some, ops_wT, ops_wTn, ops_wF, ops_wFn, ops_wU, dops_wT, dops_wTn, dops_wF, dops_wFn, dops_wU, run_condT, run_condF, alt2_int, altB_bool, altI_int, altBB_bool, v_min, v_max, v_not, v_neg, optEv_none, optEv_some, isSome'_none, isSome'_some, pExt0, pExt1, pExt2, Bool.false_and, Bool.true_and, Bool.not_true, Bool.not_false, cond_true, cond_false, dops_nil, dops_none, xval_call, v_mov, v_bin, v_len, v_ext, v_idxA, v_ld, v_st, v_app, v_appN, v_cvs, v_bs1, pBs1, v_slc, v_conv, v_fld, v_fldA, v_new, v_box, v_mks, v_copy, v_isnil, v_nilck, v_pick, ev, evs_nil, evs_cons, fr_get_cons, fr_put_nil, fr_put_cons, fr_put_some, fr_put_none, fr_keep_nil, fr_keep_cons, fr_has_nil, fr_has_cons, Option.bind_some, Option.map_some, xbin, ibin, xresult_eq, xress_nil, xress_tmp, resV, ex_some, if_true, if_false, ite_true, ite_false, reduceIte, reduceCtorEq, Nat.reduceEqDiff, Nat.reduceLT, Nat.reduceLeDiff, Int.reduceLT, Int.reduceLE, Nat.zero_add, Nat.reduceAdd, Bool.false_eq_true, decide_eq_true_eq, decide_eq_false_iff_not, true_implies, false_implies, and_true, true_and, r3, decide_true]
  · rw [if_neg hp] at hk
    have k0 : k = 0 := by omega
    subst k0
    have z0 : ((0 : Nat) : Int) = 0 := rfl
    rw [z0] at k1
    simp only [ofArgs, run_seq, run_block, run_ops, run_skip, run_exit, run_ret, thenQ_normal, thenQ_exit, thenQ_ret, blockQ_normal, blockQ_exit, blockQ_ret, retQ_ret, retQ_normal, ops_nil, ops_none, got_some, ops_wT, ops_wTn, ops_wF, ops_wFn, ops_wU, dops_wT, dops_wTn, dops_wF, dops_wFn, dops_wU, run_condT, run_condF, alt2_int, altB_bool, altI_int, altBB_bool, v_min, v_max, v_not, v_neg, optEv_none, optEv_some, isSome'_none, isSome'_some, pExt0, pExt1, pExt2, Bool.false_and, Bool.true_and, Bool.not_true, Bool.not_false, cond_true, cond_false, dops_nil, dops_none, xval_call, v_mov, v_bin, v_len, v_ext, v_idxA, v_ld, v_st, v_app, v_appN, v_cvs, v_bs1, pBs1, v_slc, v_conv, v_fld, v_fldA, v_new, v_box, v_mks, v_copy, v_isnil, v_nilck, v_pick, ev, evs_nil, evs_cons, fr_get_cons, fr_put_nil, fr_put_cons, fr_put_some, fr_put_none, fr_keep_nil, fr_keep_cons, fr_has_nil, fr_has_cons, Option.bind_some, Option.map_some, xbin, ibin, xresult_eq, xress_nil, xress_tmp, resV, ex_some, if_true, if_false, ite_true, ite_false, reduceIte, reduceCtorEq, Nat.reduceEqDiff, Nat.reduceLT, Nat.reduceLeDiff, Int.reduceLT, Int.reduceLE, Nat.zero_add, Nat.reduceAdd, Bool.false_eq_true, decide_eq_true_eq, decide_eq_false_iff_not, true_implies, false_implies, and_true, true_and, n3, hp, decide_false, k1]
    refine fin _ ?_
    intro vy H4 oy x4
    have T4 : Ints H4 vt t := Sl.ext x4 T3
    have q4 := total_xc t vt H4 T4 (by omega) kt
    simp only [ofArgs, run_seq, run_block, run_ops, run_skip, run_exit, run_ret, thenQ_normal, thenQ_exit, thenQ_ret, blockQ_normal, blockQ_exit, blockQ_ret, retQ_ret, retQ_normal, ops_nil, ops_none, got_some, ops_wT, ops_wTn, ops_wF, ops_wFn, ops_wU, dops_wT, dops_wTn, dops_wF, dops_wFn, dops_wU, run_condT, run_condF, alt2_int, altB_bool, altI_int, altBB_bool, v_min, v_max, v_not, v_neg, optEv_none, optEv_some, isSome'_none, isSome'_some, pExt0, pExt1, pExt2, Bool.false_and, Bool.true_and, Bool.not_true, Bool.not_false, cond_true, cond_false, dops_nil, dops_none, xval_call, v_mov, v_bin, v_len, v_ext, v_idxA, v_ld, v_st, v_app, v_appN, v_cvs, v_bs1, pBs1, v_slc, v_conv, v_fld, v_fldA, v_new, v_box, v_mks, v_copy, v_isnil, v_nilck, v_pick, ev, evs_nil, evs_cons, fr_get_cons, fr_put_nil, fr_put_cons, fr_put_some, fr_put_none, fr_keep_nil, fr_keep_cons, fr_has_nil, fr_has_cons, Option.bind_some, Option.map_some, xbin, ibin, xresult_eq, xress_nil, xress_tmp, resV, ex_some, if_true, if_false, ite_true, ite_false, reduceIte, reduceCtorEq, Nat.reduceEqDiff, Nat.reduceLT, Nat.reduceLeDiff, Int.reduceLT, Int.reduceLE, Nat.zero_add, Nat.reduceAdd, Bool.false_eq_true, decide_eq_true_eq, decide_eq_false_iff_not, true_implies, false_implies, and_true, true_and, q4]
    refine splice_ok t u t.sum vt vu H4 _ T4 (Sl.ext x4 U3) (by omega) (by omega) kt ku (by omega) (by omega) (by rw [d3]; exact ktu) ?_
    rw [d3]
    intro vz H5 oz x5
    simp only [ofArgs, run_seq, run_block, run_ops, run_skip, run_exit, run_ret, thenQ_normal, thenQ_exit, thenQ_ret, blockQ_normal, blockQ_exit, blockQ_ret, retQ_ret, retQ_normal, ops_nil, ops_none, got_some, ops_wT, ops_wTn, ops_wF, ops_wFn, ops_wU, dops_wT, dops_wTn, dops_wF, dops_wFn, dops_wU, run_condT, run_condF, alt2_int, altB_bool, altI_int, altBB_bool, v_min, v_max, v_not, v_neg, optEv_none, optEv_some, isSome'_none, isSome'_some, pExt0, pExt1, pExt2, Bool.false_and, Bool.true_and, Bool.not_true, Bool.not_false, cond_true, cond_false, dops_nil, dops_none, xval_call, v_mov, v_bin, v_len, v_ext, v_idxA, v_ld, v_st, v_app, v_appN, v_cvs, v_bs1, pBs1, v_slc, v_conv, v_fld, v_fldA, v_new, v_box, v_mks, v_copy, v_isnil, v_nilck, v_pick, ev, evs_nil, evs_cons, fr_get_cons, fr_put_nil, fr_put_cons, fr_put_some, fr_put_none, fr_keep_nil, fr_keep_cons, fr_has_nil, fr_has_cons, Option.bind_some, Option.map_some, xbin, ibin, xresult_eq, xress_nil, xress_tmp, resV, ex_some, if_true, if_false, ite_true, ite_false, reduceIte, reduceCtorEq, Nat.reduceEqDiff, Nat.reduceLT, Nat.reduceLeDiff, Int.reduceLT, Int.reduceLE, Nat.zero_add, Nat.reduceAdd, Bool.false_eq_true, decide_eq_true_eq, decide_eq_false_iff_not, true_implies, false_implies, and_true, true_and]
    refine times_ok H5 _ ?_
    intro H6 x6
    have X6 : Ints H6 vx t := Sl.ext (x4.trans (x5.trans x6)) ox.ints
    have Y6 : Ints H6 vy t := Sl.ext (x5.trans x6) oy.ints
    have T6 : Ints H6 vt t := Sl.ext (x5.trans x6) T4
    have U6 : Ints H6 vu u := Sl.ext (x4.trans (x5.trans x6)) U3
    have Z6 : Ints H6 vz (t ++ u) := Sl.ext x6 oz.ints
    have r1 := equal_xc t t vx vt H6 X6 T6 (by omega) (by omega)
    have r2 := equal_xc t t vy vt H6 Y6 T6 (by omega) (by omega)
    obtain ⟨p1, p2⟩ := sl_slice T6
    obtain ⟨p3, p4⟩ := sl_slice U6
    have bs : ∀ (fr : Fr) (H : AH), ev fr (.tmp 78) = some vt → ev fr (.tmp 79) = some vu → xval Try.prog (xc Try.prog tab) ⟨some 80, .bslice 48 1 2 [.slice none 0 0] [(0, .tmp 78), (1, .tmp 79)], none⟩ fr H = some (.slice (some ⟨H.n, 0, none⟩) 2 2, H.push ⟨[vt, vu], 1, false, false⟩) :=
      fun fr H h1 h2 => v_bsl2 fr H (some 80) 48 _ vt vu _ _ h1 h2 p1 p2 p3 p4
    simp only [ofArgs, run_seq, run_block, run_ops, run_skip, run_exit, run_ret, thenQ_normal, thenQ_exit, thenQ_ret, blockQ_normal, blockQ_exit, blockQ_ret, retQ_ret, retQ_normal, ops_nil, ops_none, got_some, ops_wT, ops_wTn, ops_wF, ops_wFn, ops_wU, dops_wT, dops_wTn, dops_wF, dops_wFn, dops_wU, run_condT, run_condF, alt2_int, altB_bool, altI_int, altBB_bool, v_min, v_max, v_not, v_neg, optEv_none, optEv_some, isSome'_none, isSome'_some, pExt0, pExt1, pExt2, Bool.false_and, Bool.true_and, Bool.not_true, Bool.not_false, cond_true, cond_false, dops_nil, dops_none, xval_call, v_mov, v_bin, v_len, v_ext, v_idxA, v_ld, v_st, v_app, v_appN, v_cvs, v_bs1, pBs1, v_slc, v_conv, v_fld, v_fldA, v_new, v_box, v_mks, v_copy, v_isnil, v_nilck, v_pick, ev, evs_nil, evs_cons, fr_get_cons, fr_put_nil, fr_put_cons, fr_put_some, fr_put_none, fr_keep_nil, fr_keep_cons, fr_has_nil, fr_has_cons, Option.bind_some, Option.map_some, xbin, ibin, xresult_eq, xress_nil, xress_tmp, resV, ex_some, if_true, if_false, ite_true, ite_false, reduceIte, reduceCtorEq, Nat.reduceEqDiff, Nat.reduceLT, Nat.reduceLeDiff, Int.reduceLT, Int.reduceLE, Nat.zero_add, Nat.reduceAdd, Bool.false_eq_true, decide_eq_true_eq, decide_eq_false_iff_not, true_implies, false_implies, and_true, true_and, r1, r2, bs, decide_true, beq_self_eq_true]
    have px := hext_push H6 ⟨[vt, vu], 1, false, false⟩
    refine concatT_ok t u (by omega) (by omega) _ vt vu _ _ (Sl.pushed H6 [vt, vu] 1 2 false false rfl) (Sl.ext px T6) (Sl.ext px U6) ?_
    intro vc H7 oc x7
    have r3 := equal_xc (t ++ u) (t ++ u) vz vc H7 (Sl.ext (px.trans x7) Z6) oc.ints (by simp; omega) (by simp; omega)
    simp only [ofArgs, run_seq, run_block, run_ops, run_skip, run_exit, run_ret, thenQ_normal, thenQ_exit, thenQ_ret, blockQ_normal, blockQ_exit, blockQ_ret, retQ_ret, retQ_normal, ops_nil, ops_none, got_some, ops_wT, ops_wTn, ops_wF, ops_wFn, ops_wU, dops_wT, dops_wTn, dops_wF, dops_wFn, dops_wU, run_condT, run_condF, alt2_int, altB_bool, altI_int, altBB_bool, v_min, v_max, v_not, v_neg, optEv_none, optEv_some, isSome'_none, isSome'_some, pExt0, pExt1, pExt2, Bool.false_and, Bool.true_and, Bool.not_true, Bool.not_false, cond_true, cond_false, dops_nil, dops_none, xval_call, v_mov, v_bin, v_len, v_ext, v_idxA, v_ld, v_st, v_app, v_appN, v_cvs, v_bs1, pBs1, v_slc, v_conv, v_fld, v_fldA, v_new, v_box, v_mks, v_copy, v_isnil, v_nilck, v_pick, ev, evs_nil, evs_cons, fr_get_cons, fr_put_nil, fr_put_cons, fr_put_some, fr_put_none, fr_keep_nil, fr_keep_cons, fr_has_nil, fr_has_cons, Option.bind_some, Option.map_some, xbin, ibin, xresult_eq, xress_nil, xress_tmp, resV, ex_some, if_true, if_false, ite_true, ite_false, reduceIte, reduceCtorEq, Nat.reduceEqDiff, Nat.reduceLT, Nat.reduceLeDiff, Int.reduceLT, Int.reduceLE, Nat.zero_add, Nat.reduceAdd, Bool.false_eq_true, decide_eq_true_eq, decide_eq_false_iff_not, true_implies, false_implies, and_true, true_and, r3, decide_true]
end Go.Proofs.Ytkhjmmidaihbhaa.D
