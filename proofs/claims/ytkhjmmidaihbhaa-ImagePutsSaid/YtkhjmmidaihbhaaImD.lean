/- What functions that the law reaches compute, on a heap of the run's own: the conditions stand in each theorem. -/
import Derived.Test.YtkhjmmidaihbhaaImC
set_option linter.unusedSimpArgs false
set_option linter.unusedVariables false
namespace Go.Proofs.Ytkhjmmidaihbhaa.D
open Go Go.Det

theorem split_at (T S a : Int) (hS : 1 ≤ S) (h0 : 0 ≤ a) (h1 : a < T * S) : 0 ≤ a / S ∧ a / S < T ∧ 0 ≤ a % S ∧ a % S < S ∧ a / S * S + a % S = a :=
  ⟨Int.ediv_nonneg h0 (by omega), Int.ediv_lt_of_lt_mul (by omega) h1, Int.emod_nonneg _ (by omega), Int.emod_lt_of_pos _ (by omega), by rw [Int.mul_comm]; exact Int.mul_ediv_add_emod a S⟩

set_option maxHeartbeats 4000000 in
theorem ImagePuts_ok (l m : List Int) (at0 to0 : Int) (s1 s2 : Value) (H : AH) (hi1 : Ints H s1 l) (hi2 : Ints H s2 m) : Got (xc Try.prog tab 5 [s1, s2, .int .i64 at0, .int .i64 to0] H) fun v H' => v = .bool true := by
  refine got_call (res := [.tmp 8]) rfl ?_
  simp only [ofArgs, run_seq, run_block, run_ops, run_skip, run_exit, run_ret, thenQ_normal, thenQ_exit, thenQ_ret, blockQ_normal, blockQ_exit, blockQ_ret, retQ_ret, retQ_normal, ops_nil, ops_none, got_some, ops_wT, ops_wTn, ops_wF, ops_wFn, ops_wU, dops_wT, dops_wTn, dops_wF, dops_wFn, dops_wU, run_condT, run_condF, alt2_int, altB_bool, altI_int, altBB_bool, v_min, v_max, v_not, v_neg, optEv_none, optEv_some, isSome'_none, isSome'_some, pExt0, pExt1, pExt2, Bool.false_and, Bool.true_and, Bool.not_true, Bool.not_false, cond_true, cond_false, dops_nil, dops_none, xval_call, v_mov, v_bin, v_len, v_ext, v_idxA, v_ld, v_st, v_app, v_appN, v_cvs, v_bs1, pBs1, v_slc, v_conv, v_fld, v_fldA, v_new, v_box, v_mks, v_copy, v_isnil, v_nilck, v_pick, ev, evs_nil, evs_cons, fr_get_cons, fr_put_nil, fr_put_cons, fr_put_some, fr_put_none, fr_keep_nil, fr_keep_cons, fr_has_nil, fr_has_cons, Option.bind_some, Option.map_some, xbin, ibin, xresult_eq, xress_nil, xress_tmp, resV, ex_some, if_true, if_false, ite_true, ite_false, reduceIte, reduceCtorEq, Nat.reduceEqDiff, Nat.reduceLT, Nat.reduceLeDiff, Int.reduceLT, Int.reduceLE, Nat.zero_add, Nat.reduceAdd, Bool.false_eq_true, decide_eq_true_eq, decide_eq_false_iff_not, true_implies, false_implies, and_true, true_and]
  refine disk_ok l s1 H _ hi1 ?_
  intro T S v L H1 hT hT3 hS hS4 hLL hl hsec x1
  have m1 : T * S ≤ 3 * S := Int.mul_le_mul_of_nonneg_right (by omega) (by omega)
  have m2 : 1 * S ≤ T * S := Int.mul_le_mul_of_nonneg_right (by omega) (by omega)
  have g1 : (H1.push ⟨[.int .i64 0, .int .i64 0, .slice none 0 0], 1, false, false⟩).get H1.n = some ⟨[.int .i64 0, .int .i64 0, .slice none 0 0], 1, false, false⟩ := by rw [AH.get_push, if_pos rfl]
  obtain ⟨o1, o2, o3⟩ := hsec.sl
  have e1 := st3 (a' := .int .i64 T) (b' := .int .i64 S) (c' := v) g1 rfl rfl o1
  have g2 : ((H1.push ⟨[.int .i64 0, .int .i64 0, .slice none 0 0], 1, false, false⟩).set H1.n ⟨[.int .i64 T, .int .i64 S, v], 1, false, false⟩).get H1.n = some ⟨[.int .i64 T, .int .i64 S, v], 1, false, false⟩ := by rw [AH.get_set, if_pos rfl]
  have x2 : HExt H1 ((H1.push ⟨[.int .i64 0, .int .i64 0, .slice none 0 0], 1, false, false⟩).set H1.n ⟨[.int .i64 T, .int .i64 S, v], 1, false, false⟩) :=
    ⟨by show _ ≤ H1.n + 1; omega, fun b hb => by rw [AH.get_set, if_neg (by omega), AH.get_push, if_neg (by omega)]⟩
  have hn2 : ((H1.push ⟨[.int .i64 0, .int .i64 0, .slice none 0 0], 1, false, false⟩).set H1.n ⟨[.int .i64 T, .int .i64 S, v], 1, false, false⟩).n = H1.n + 1 := rfl
  simp only [ofArgs, run_seq, run_block, run_ops, run_skip, run_exit, run_ret, thenQ_normal, thenQ_exit, thenQ_ret, blockQ_normal, blockQ_exit, blockQ_ret, retQ_ret, retQ_normal, ops_nil, ops_none, got_some, ops_wT, ops_wTn, ops_wF, ops_wFn, ops_wU, dops_wT, dops_wTn, dops_wF, dops_wFn, dops_wU, run_condT, run_condF, alt2_int, altB_bool, altI_int, altBB_bool, v_min, v_max, v_not, v_neg, optEv_none, optEv_some, isSome'_none, isSome'_some, pExt0, pExt1, pExt2, Bool.false_and, Bool.true_and, Bool.not_true, Bool.not_false, cond_true, cond_false, dops_nil, dops_none, xval_call, v_mov, v_bin, v_len, v_ext, v_idxA, v_ld, v_st, v_app, v_appN, v_cvs, v_bs1, pBs1, v_slc, v_conv, v_fld, v_fldA, v_new, v_box, v_mks, v_copy, v_isnil, v_nilck, v_pick, ev, evs_nil, evs_cons, fr_get_cons, fr_put_nil, fr_put_cons, fr_put_some, fr_put_none, fr_keep_nil, fr_keep_cons, fr_has_nil, fr_has_cons, Option.bind_some, Option.map_some, xbin, ibin, xresult_eq, xress_nil, xress_tmp, resV, ex_some, if_true, if_false, ite_true, ite_false, reduceIte, reduceCtorEq, Nat.reduceEqDiff, Nat.reduceLT, Nat.reduceLeDiff, Int.reduceLT, Int.reduceLE, Nat.zero_add, Nat.reduceAdd, Bool.false_eq_true, decide_eq_true_eq, decide_eq_false_iff_not, true_implies, false_implies, and_true, true_and, e1]
  generalize ((H1.push ⟨[.int .i64 0, .int .i64 0, .slice none 0 0], 1, false, false⟩).set H1.n ⟨[.int .i64 T, .int .i64 S, v], 1, false, false⟩) = H2 at g2 x2 hn2
  have hsec2 := hsec.ext x2
  have e2 := ld3_2 g2
  have e3 := hsec2.len
  have hLpos : 0 < (L.length : Int) := by omega
  have q1 := below_xc at0 (L.length : Int) H2 hLpos (by omega)
  have q2 := below_xc to0 (L.length : Int) H2 hLpos (by omega)
  have a0 := Int.emod_nonneg at0 (by omega : (L.length : Int) ≠ 0)
  have a1 := Int.emod_lt_of_pos at0 hLpos
  have t0 := Int.emod_nonneg to0 (by omega : (L.length : Int) ≠ 0)
  have t1 := Int.emod_lt_of_pos to0 hLpos
  refine run_dopsS _ _ _ _ _ ?_
  simp only [ofArgs, run_seq, run_block, run_ops, run_skip, run_exit, run_ret, thenQ_normal, thenQ_exit, thenQ_ret, blockQ_normal, blockQ_exit, blockQ_ret, retQ_ret, retQ_normal, ops_nil, ops_none, got_some, ops_wT, ops_wTn, ops_wF, ops_wFn, ops_wU, dops_wT, dops_wTn, dops_wF, dops_wFn, dops_wU, run_condT, run_condF, alt2_int, altB_bool, altI_int, altBB_bool, v_min, v_max, v_not, v_neg, optEv_none, optEv_some, isSome'_none, isSome'_some, pExt0, pExt1, pExt2, Bool.false_and, Bool.true_and, Bool.not_true, Bool.not_false, cond_true, cond_false, dops_nil, dops_none, xval_call, v_mov, v_bin, v_len, v_ext, v_idxA, v_ld, v_st, v_app, v_appN, v_cvs, v_bs1, pBs1, v_slc, v_conv, v_fld, v_fldA, v_new, v_box, v_mks, v_copy, v_isnil, v_nilck, v_pick, ev, evs_nil, evs_cons, fr_get_cons, fr_put_nil, fr_put_cons, fr_put_some, fr_put_none, fr_keep_nil, fr_keep_cons, fr_has_nil, fr_has_cons, Option.bind_some, Option.map_some, xbin, ibin, xresult_eq, xress_nil, xress_tmp, resV, ex_some, if_true, if_false, ite_true, ite_false, reduceIte, reduceCtorEq, Nat.reduceEqDiff, Nat.reduceLT, Nat.reduceLeDiff, Int.reduceLT, Int.reduceLE, Nat.zero_add, Nat.reduceAdd, Bool.false_eq_true, decide_eq_true_eq, decide_eq_false_iff_not, true_implies, false_implies, and_true, true_and, dr_nil, dr_cons, hs0, hs1, hs2, hs3, addC_nil, addC_cons, stabAll_nil, stabAll_cons, stab1_nil, stab1_cons, hat_cons, xval_wT, xval_wTn, xval_wF, xval_wFn, veq_int, veq_bool, veq_ptr, veq_sl, pFldA_ptr, e2, e3, q1, q2, o3]
  obtain ⟨a, ha⟩ : ∃ a : Nat, at0 % (L.length : Int) = (a : Int) := ⟨(at0 % (L.length : Int)).toNat, by omega⟩
  obtain ⟨t, ht⟩ : ∃ t : Nat, to0 % (L.length : Int) = (t : Int) := ⟨(to0 % (L.length : Int)).toNat, by omega⟩
  rw [ha, ht]
  rw [ha] at a0 a1
  rw [ht] at t0 t1
  refine Bytes_ok m 128 (by omega) s2 H2 _ (Sl.ext (x1.trans x2) hi2) ?_
  intro vb H3 ob x3
  have hbl := byts_len 128 m
  generalize byts 128 m = bl at ob hbl
  have g3 : H3.get H1.n = some ⟨[.int .i64 T, .int .i64 S, v], 1, false, false⟩ := by rw [x3.2 _ (by omega)]; exact g2
  have hsec3 := hsec2.ext x3
  obtain ⟨p1, p2, p3, p4, p5⟩ := split_at T S (a : Int) hS a0 (by omega)
  obtain ⟨r1, r2, r3, r4, r5⟩ := split_at T S (t : Int) hS t0 (by omega)
  have d1 : Int.tdiv (a : Int) S = (a : Int) / S := Int.tdiv_eq_ediv_of_nonneg a0
  have d2 : Int.tmod (a : Int) S = (a : Int) % S := Int.tmod_eq_emod_of_nonneg a0
  have d3 : Int.tdiv (t : Int) S = (t : Int) / S := Int.tdiv_eq_ediv_of_nonneg t0
  have d4 : Int.tmod (t : Int) S = (t : Int) % S := Int.tmod_eq_emod_of_nonneg t0
  have w1 := wrI ((a : Int) / S) (by omega) (by omega)
  have w2 := wrI ((t : Int) / S) (by omega) (by omega)
  have cS : ¬ S = 0 := by omega
  have e4 := ld3 g3
  have e5 := ld3_1 g3
  refine run_dopsS _ _ _ _ _ ?_
  simp only [ofArgs, run_seq, run_block, run_ops, run_skip, run_exit, run_ret, thenQ_normal, thenQ_exit, thenQ_ret, blockQ_normal, blockQ_exit, blockQ_ret, retQ_ret, retQ_normal, ops_nil, ops_none, got_some, ops_wT, ops_wTn, ops_wF, ops_wFn, ops_wU, dops_wT, dops_wTn, dops_wF, dops_wFn, dops_wU, run_condT, run_condF, alt2_int, altB_bool, altI_int, altBB_bool, v_min, v_max, v_not, v_neg, optEv_none, optEv_some, isSome'_none, isSome'_some, pExt0, pExt1, pExt2, Bool.false_and, Bool.true_and, Bool.not_true, Bool.not_false, cond_true, cond_false, dops_nil, dops_none, xval_call, v_mov, v_bin, v_len, v_ext, v_idxA, v_ld, v_st, v_app, v_appN, v_cvs, v_bs1, pBs1, v_slc, v_conv, v_fld, v_fldA, v_new, v_box, v_mks, v_copy, v_isnil, v_nilck, v_pick, ev, evs_nil, evs_cons, fr_get_cons, fr_put_nil, fr_put_cons, fr_put_some, fr_put_none, fr_keep_nil, fr_keep_cons, fr_has_nil, fr_has_cons, Option.bind_some, Option.map_some, xbin, ibin, xresult_eq, xress_nil, xress_tmp, resV, ex_some, if_true, if_false, ite_true, ite_false, reduceIte, reduceCtorEq, Nat.reduceEqDiff, Nat.reduceLT, Nat.reduceLeDiff, Int.reduceLT, Int.reduceLE, Nat.zero_add, Nat.reduceAdd, Bool.false_eq_true, decide_eq_true_eq, decide_eq_false_iff_not, true_implies, false_implies, and_true, true_and, dr_nil, dr_cons, hs0, hs1, hs2, hs3, addC_nil, addC_cons, stabAll_nil, stabAll_cons, stab1_nil, stab1_cons, hat_cons, xval_wT, xval_wTn, xval_wF, xval_wFn, veq_int, veq_bool, veq_ptr, veq_sl, pFldA_ptr, e4, e5, cS, d1, d2, w1]
  refine put_ok T S _ _ a v vb H3 L bl _ hsec3 ob.1 hbl hl hT (by omega) hS (by omega) hLL p1 p2 p3 p4 p5 (by omega) (by omega) ?_
  intro v4 H4 hsec4 x4
  have hn4 := x4.1
  have hn3 := x3.1
  have g4 : (H4.push ⟨[.int .i64 0, .int .i64 0, .slice none 0 0], 1, false, false⟩).get H4.n = some ⟨[.int .i64 0, .int .i64 0, .slice none 0 0], 1, false, false⟩ := by rw [AH.get_push, if_pos rfl]
  obtain ⟨o4, o5, _⟩ := hsec4.sl
  have e6 := st3 (a' := .int .i64 T) (b' := .int .i64 S) (c' := v4) g4 rfl rfl o4
  have g5 : ((H4.push ⟨[.int .i64 0, .int .i64 0, .slice none 0 0], 1, false, false⟩).set H4.n ⟨[.int .i64 T, .int .i64 S, v4], 1, false, false⟩).get H4.n = some ⟨[.int .i64 T, .int .i64 S, v4], 1, false, false⟩ := by rw [AH.get_set, if_pos rfl]
  have x5 : HExt H4 ((H4.push ⟨[.int .i64 0, .int .i64 0, .slice none 0 0], 1, false, false⟩).set H4.n ⟨[.int .i64 T, .int .i64 S, v4], 1, false, false⟩) :=
    ⟨by show _ ≤ H4.n + 1; omega, fun b hb => by rw [AH.get_set, if_neg (by omega), AH.get_push, if_neg (by omega)]⟩
  have hn5 : ((H4.push ⟨[.int .i64 0, .int .i64 0, .slice none 0 0], 1, false, false⟩).set H4.n ⟨[.int .i64 T, .int .i64 S, v4], 1, false, false⟩).n = H4.n + 1 := rfl
  simp only [ofArgs, run_seq, run_block, run_ops, run_skip, run_exit, run_ret, thenQ_normal, thenQ_exit, thenQ_ret, blockQ_normal, blockQ_exit, blockQ_ret, retQ_ret, retQ_normal, ops_nil, ops_none, got_some, ops_wT, ops_wTn, ops_wF, ops_wFn, ops_wU, dops_wT, dops_wTn, dops_wF, dops_wFn, dops_wU, run_condT, run_condF, alt2_int, altB_bool, altI_int, altBB_bool, v_min, v_max, v_not, v_neg, optEv_none, optEv_some, isSome'_none, isSome'_some, pExt0, pExt1, pExt2, Bool.false_and, Bool.true_and, Bool.not_true, Bool.not_false, cond_true, cond_false, dops_nil, dops_none, xval_call, v_mov, v_bin, v_len, v_ext, v_idxA, v_ld, v_st, v_app, v_appN, v_cvs, v_bs1, pBs1, v_slc, v_conv, v_fld, v_fldA, v_new, v_box, v_mks, v_copy, v_isnil, v_nilck, v_pick, ev, evs_nil, evs_cons, fr_get_cons, fr_put_nil, fr_put_cons, fr_put_some, fr_put_none, fr_keep_nil, fr_keep_cons, fr_has_nil, fr_has_cons, Option.bind_some, Option.map_some, xbin, ibin, xresult_eq, xress_nil, xress_tmp, resV, ex_some, if_true, if_false, ite_true, ite_false, reduceIte, reduceCtorEq, Nat.reduceEqDiff, Nat.reduceLT, Nat.reduceLeDiff, Int.reduceLT, Int.reduceLE, Nat.zero_add, Nat.reduceAdd, Bool.false_eq_true, decide_eq_true_eq, decide_eq_false_iff_not, true_implies, false_implies, and_true, true_and, dr_nil, dr_cons, hs0, hs1, hs2, hs3, addC_nil, addC_cons, stabAll_nil, stabAll_cons, stab1_nil, stab1_cons, hat_cons, xval_wT, xval_wTn, xval_wF, xval_wFn, veq_int, veq_bool, veq_ptr, veq_sl, pFldA_ptr, e6]
  generalize ((H4.push ⟨[.int .i64 0, .int .i64 0, .slice none 0 0], 1, false, false⟩).set H4.n ⟨[.int .i64 T, .int .i64 S, v4], 1, false, false⟩) = H5 at g5 x5 hn5
  have hsec5 := hsec4.ext x5
  have g6 : H5.get H1.n = some ⟨[.int .i64 T, .int .i64 S, v], 1, false, false⟩ := by rw [x5.2 _ (by omega), x4.2 _ (by omega)]; exact g3
  have e7 := ld3 g5
  have e8 := ld3_1 g6
  have hl5 : ∀ l ∈ L.set a bl, l.length = 128 := by
    intro l hml
    rcases List.mem_or_eq_of_mem_set hml with h | h
    · exact hl l h
    · rw [h]; exact hbl
  refine run_dopsS _ _ _ _ _ ?_
  simp only [ofArgs, run_seq, run_block, run_ops, run_skip, run_exit, run_ret, thenQ_normal, thenQ_exit, thenQ_ret, blockQ_normal, blockQ_exit, blockQ_ret, retQ_ret, retQ_normal, ops_nil, ops_none, got_some, ops_wT, ops_wTn, ops_wF, ops_wFn, ops_wU, dops_wT, dops_wTn, dops_wF, dops_wFn, dops_wU, run_condT, run_condF, alt2_int, altB_bool, altI_int, altBB_bool, v_min, v_max, v_not, v_neg, optEv_none, optEv_some, isSome'_none, isSome'_some, pExt0, pExt1, pExt2, Bool.false_and, Bool.true_and, Bool.not_true, Bool.not_false, cond_true, cond_false, dops_nil, dops_none, xval_call, v_mov, v_bin, v_len, v_ext, v_idxA, v_ld, v_st, v_app, v_appN, v_cvs, v_bs1, pBs1, v_slc, v_conv, v_fld, v_fldA, v_new, v_box, v_mks, v_copy, v_isnil, v_nilck, v_pick, ev, evs_nil, evs_cons, fr_get_cons, fr_put_nil, fr_put_cons, fr_put_some, fr_put_none, fr_keep_nil, fr_keep_cons, fr_has_nil, fr_has_cons, Option.bind_some, Option.map_some, xbin, ibin, xresult_eq, xress_nil, xress_tmp, resV, ex_some, if_true, if_false, ite_true, ite_false, reduceIte, reduceCtorEq, Nat.reduceEqDiff, Nat.reduceLT, Nat.reduceLeDiff, Int.reduceLT, Int.reduceLE, Nat.zero_add, Nat.reduceAdd, Bool.false_eq_true, decide_eq_true_eq, decide_eq_false_iff_not, true_implies, false_implies, and_true, true_and, dr_nil, dr_cons, hs0, hs1, hs2, hs3, addC_nil, addC_cons, stabAll_nil, stabAll_cons, stab1_nil, stab1_cons, hat_cons, xval_wT, xval_wTn, xval_wF, xval_wFn, veq_int, veq_bool, veq_ptr, veq_sl, pFldA_ptr, e7, e8, cS, d3, d4, w2]
  refine get_ok T S _ _ t v4 H5 (L.set a bl) _ hsec5 hl5 hT (by omega) hS (by omega) (by rw [List.length_set]; exact hLL) r1 r2 r3 r4 r5 (by rw [List.length_set]; omega) ?_
  intro vg H6 og x6
  have hn6 := x6.1
  have g7 : H6.get H1.n = some ⟨[.int .i64 T, .int .i64 S, v], 1, false, false⟩ := by rw [x6.2 _ (by omega)]; exact g6
  have e9 := ld3_2 g7
  have x36 : HExt H3 H6 := x4.trans (x5.trans x6)
  obtain ⟨x, p6, p7, p8⟩ := (hsec3.ext x36).at (t : Int) t rfl (by omega)
  have fin : ∀ (w : Value) (wl : List Int), Byts H6 w wl → (L.set a bl)[t]'(by rw [List.length_set]; omega) = wl → wl.length = 128 → ∀ H7, HExt H6 H7 → xc Try.prog tab 23 [vg, w] H7 = some (.bool true, H7) := by
    intro w wl hw hwl hw128 H7 x7
    have := equalB_xc _ wl vg w H7 (Sl.ext x7 og.1) (Sl.ext x7 hw) (by rw [hwl]; omega) (by omega)
    rw [hwl] at this
    simpa using this
  have hbuild : ∀ (fr : Fr) (H : AH), xval Try.prog (xc Try.prog tab) ⟨some 66, .build [.int .i64 0, .int .i64 0, .slice none 0 0] [], none⟩ fr H = some (.agg #[.int .i64 0, .int .i64 0, .slice none 0 0], H) := fun _ _ => rfl
  have hsec6 := hsec5.ext x6
  have g8 : H6.get H4.n = some ⟨[.int .i64 T, .int .i64 S, v4], 1, false, false⟩ := by rw [x6.2 _ (by omega)]; exact g5
  simp only [ofArgs, run_seq, run_block, run_ops, run_skip, run_exit, run_ret, thenQ_normal, thenQ_exit, thenQ_ret, blockQ_normal, blockQ_exit, blockQ_ret, retQ_ret, retQ_normal, ops_nil, ops_none, got_some, ops_wT, ops_wTn, ops_wF, ops_wFn, ops_wU, dops_wT, dops_wTn, dops_wF, dops_wFn, dops_wU, run_condT, run_condF, alt2_int, altB_bool, altI_int, altBB_bool, v_min, v_max, v_not, v_neg, optEv_none, optEv_some, isSome'_none, isSome'_some, pExt0, pExt1, pExt2, Bool.false_and, Bool.true_and, Bool.not_true, Bool.not_false, cond_true, cond_false, dops_nil, dops_none, xval_call, v_mov, v_bin, v_len, v_ext, v_idxA, v_ld, v_st, v_app, v_appN, v_cvs, v_bs1, pBs1, v_slc, v_conv, v_fld, v_fldA, v_new, v_box, v_mks, v_copy, v_isnil, v_nilck, v_pick, ev, evs_nil, evs_cons, fr_get_cons, fr_put_nil, fr_put_cons, fr_put_some, fr_put_none, fr_keep_nil, fr_keep_cons, fr_has_nil, fr_has_cons, Option.bind_some, Option.map_some, xbin, ibin, xresult_eq, xress_nil, xress_tmp, resV, ex_some, if_true, if_false, ite_true, ite_false, reduceIte, reduceCtorEq, Nat.reduceEqDiff, Nat.reduceLT, Nat.reduceLeDiff, Int.reduceLT, Int.reduceLE, Nat.zero_add, Nat.reduceAdd, Bool.false_eq_true, decide_eq_true_eq, decide_eq_false_iff_not, true_implies, false_implies, and_true, true_and, pFldA_ptr, e9, p6, p7]
  by_cases hat : a = t
  · subst hat
    have c1 : ((a : Int) == (a : Int)) = true := by simp
    simp only [ofArgs, run_seq, run_block, run_ops, run_skip, run_exit, run_ret, thenQ_normal, thenQ_exit, thenQ_ret, blockQ_normal, blockQ_exit, blockQ_ret, retQ_ret, retQ_normal, ops_nil, ops_none, got_some, ops_wT, ops_wTn, ops_wF, ops_wFn, ops_wU, dops_wT, dops_wTn, dops_wF, dops_wFn, dops_wU, run_condT, run_condF, alt2_int, altB_bool, altI_int, altBB_bool, v_min, v_max, v_not, v_neg, optEv_none, optEv_some, isSome'_none, isSome'_some, pExt0, pExt1, pExt2, Bool.false_and, Bool.true_and, Bool.not_true, Bool.not_false, cond_true, cond_false, dops_nil, dops_none, xval_call, v_mov, v_bin, v_len, v_ext, v_idxA, v_ld, v_st, v_app, v_appN, v_cvs, v_bs1, pBs1, v_slc, v_conv, v_fld, v_fldA, v_new, v_box, v_mks, v_copy, v_isnil, v_nilck, v_pick, ev, evs_nil, evs_cons, fr_get_cons, fr_put_nil, fr_put_cons, fr_put_some, fr_put_none, fr_keep_nil, fr_keep_cons, fr_has_nil, fr_has_cons, Option.bind_some, Option.map_some, xbin, ibin, xresult_eq, xress_nil, xress_tmp, resV, ex_some, if_true, if_false, ite_true, ite_false, reduceIte, reduceCtorEq, Nat.reduceEqDiff, Nat.reduceLT, Nat.reduceLeDiff, Int.reduceLT, Int.reduceLE, Nat.zero_add, Nat.reduceAdd, Bool.false_eq_true, decide_eq_true_eq, decide_eq_false_iff_not, true_implies, false_implies, and_true, true_and, c1, hbuild]
    refine imcheck_empty H6 _ ?_
    intro H7 x7
    have g9 : H7.get H4.n = some ⟨[.int .i64 T, .int .i64 S, v4], 1, false, false⟩ := by rw [x7.2 _ (by omega)]; exact g8
    have e10 := ld3 g9
    simp only [ofArgs, run_seq, run_block, run_ops, run_skip, run_exit, run_ret, thenQ_normal, thenQ_exit, thenQ_ret, blockQ_normal, blockQ_exit, blockQ_ret, retQ_ret, retQ_normal, ops_nil, ops_none, got_some, ops_wT, ops_wTn, ops_wF, ops_wFn, ops_wU, dops_wT, dops_wTn, dops_wF, dops_wFn, dops_wU, run_condT, run_condF, alt2_int, altB_bool, altI_int, altBB_bool, v_min, v_max, v_not, v_neg, optEv_none, optEv_some, isSome'_none, isSome'_some, pExt0, pExt1, pExt2, Bool.false_and, Bool.true_and, Bool.not_true, Bool.not_false, cond_true, cond_false, dops_nil, dops_none, xval_call, v_mov, v_bin, v_len, v_ext, v_idxA, v_ld, v_st, v_app, v_appN, v_cvs, v_bs1, pBs1, v_slc, v_conv, v_fld, v_fldA, v_new, v_box, v_mks, v_copy, v_isnil, v_nilck, v_pick, ev, evs_nil, evs_cons, fr_get_cons, fr_put_nil, fr_put_cons, fr_put_some, fr_put_none, fr_keep_nil, fr_keep_cons, fr_has_nil, fr_has_cons, Option.bind_some, Option.map_some, xbin, ibin, xresult_eq, xress_nil, xress_tmp, resV, ex_some, if_true, if_false, ite_true, ite_false, reduceIte, reduceCtorEq, Nat.reduceEqDiff, Nat.reduceLT, Nat.reduceLeDiff, Int.reduceLT, Int.reduceLE, Nat.zero_add, Nat.reduceAdd, Bool.false_eq_true, decide_eq_true_eq, decide_eq_false_iff_not, true_implies, false_implies, and_true, true_and, beq_self_eq_true, e10]
    refine imcheck_ok T S v4 H7 (L.set a bl) _ (hsec6.ext x7) hl5 hT (by omega) hS (by omega) (by rw [List.length_set]; exact hLL) ?_
    intro H8 x8
    have hb6 : Byts H6 vb bl := Sl.ext x36 ob.1
    have e11 := fin vb bl hb6 (by rw [List.getElem_set_self]) hbl H8 (x7.trans x8)
    simp only [ofArgs, run_seq, run_block, run_ops, run_skip, run_exit, run_ret, thenQ_normal, thenQ_exit, thenQ_ret, blockQ_normal, blockQ_exit, blockQ_ret, retQ_ret, retQ_normal, ops_nil, ops_none, got_some, ops_wT, ops_wTn, ops_wF, ops_wFn, ops_wU, dops_wT, dops_wTn, dops_wF, dops_wFn, dops_wU, run_condT, run_condF, alt2_int, altB_bool, altI_int, altBB_bool, v_min, v_max, v_not, v_neg, optEv_none, optEv_some, isSome'_none, isSome'_some, pExt0, pExt1, pExt2, Bool.false_and, Bool.true_and, Bool.not_true, Bool.not_false, cond_true, cond_false, dops_nil, dops_none, xval_call, v_mov, v_bin, v_len, v_ext, v_idxA, v_ld, v_st, v_app, v_appN, v_cvs, v_bs1, pBs1, v_slc, v_conv, v_fld, v_fldA, v_new, v_box, v_mks, v_copy, v_isnil, v_nilck, v_pick, ev, evs_nil, evs_cons, fr_get_cons, fr_put_nil, fr_put_cons, fr_put_some, fr_put_none, fr_keep_nil, fr_keep_cons, fr_has_nil, fr_has_cons, Option.bind_some, Option.map_some, xbin, ibin, xresult_eq, xress_nil, xress_tmp, resV, ex_some, if_true, if_false, ite_true, ite_false, reduceIte, reduceCtorEq, Nat.reduceEqDiff, Nat.reduceLT, Nat.reduceLeDiff, Int.reduceLT, Int.reduceLE, Nat.zero_add, Nat.reduceAdd, Bool.false_eq_true, decide_eq_true_eq, decide_eq_false_iff_not, true_implies, false_implies, and_true, true_and, beq_self_eq_true, e11]
  · have c1 : ((a : Int) == (t : Int)) = false := by simp; omega
    simp only [ofArgs, run_seq, run_block, run_ops, run_skip, run_exit, run_ret, thenQ_normal, thenQ_exit, thenQ_ret, blockQ_normal, blockQ_exit, blockQ_ret, retQ_ret, retQ_normal, ops_nil, ops_none, got_some, ops_wT, ops_wTn, ops_wF, ops_wFn, ops_wU, dops_wT, dops_wTn, dops_wF, dops_wFn, dops_wU, run_condT, run_condF, alt2_int, altB_bool, altI_int, altBB_bool, v_min, v_max, v_not, v_neg, optEv_none, optEv_some, isSome'_none, isSome'_some, pExt0, pExt1, pExt2, Bool.false_and, Bool.true_and, Bool.not_true, Bool.not_false, cond_true, cond_false, dops_nil, dops_none, xval_call, v_mov, v_bin, v_len, v_ext, v_idxA, v_ld, v_st, v_app, v_appN, v_cvs, v_bs1, pBs1, v_slc, v_conv, v_fld, v_fldA, v_new, v_box, v_mks, v_copy, v_isnil, v_nilck, v_pick, ev, evs_nil, evs_cons, fr_get_cons, fr_put_nil, fr_put_cons, fr_put_some, fr_put_none, fr_keep_nil, fr_keep_cons, fr_has_nil, fr_has_cons, Option.bind_some, Option.map_some, xbin, ibin, xresult_eq, xress_nil, xress_tmp, resV, ex_some, if_true, if_false, ite_true, ite_false, reduceIte, reduceCtorEq, Nat.reduceEqDiff, Nat.reduceLT, Nat.reduceLeDiff, Int.reduceLT, Int.reduceLE, Nat.zero_add, Nat.reduceAdd, Bool.false_eq_true, decide_eq_true_eq, decide_eq_false_iff_not, true_implies, false_implies, and_true, true_and, c1, hbuild]
    refine imcheck_empty H6 _ ?_
    intro H7 x7
    have g9 : H7.get H4.n = some ⟨[.int .i64 T, .int .i64 S, v4], 1, false, false⟩ := by rw [x7.2 _ (by omega)]; exact g8
    have e10 := ld3 g9
    simp only [ofArgs, run_seq, run_block, run_ops, run_skip, run_exit, run_ret, thenQ_normal, thenQ_exit, thenQ_ret, blockQ_normal, blockQ_exit, blockQ_ret, retQ_ret, retQ_normal, ops_nil, ops_none, got_some, ops_wT, ops_wTn, ops_wF, ops_wFn, ops_wU, dops_wT, dops_wTn, dops_wF, dops_wFn, dops_wU, run_condT, run_condF, alt2_int, altB_bool, altI_int, altBB_bool, v_min, v_max, v_not, v_neg, optEv_none, optEv_some, isSome'_none, isSome'_some, pExt0, pExt1, pExt2, Bool.false_and, Bool.true_and, Bool.not_true, Bool.not_false, cond_true, cond_false, dops_nil, dops_none, xval_call, v_mov, v_bin, v_len, v_ext, v_idxA, v_ld, v_st, v_app, v_appN, v_cvs, v_bs1, pBs1, v_slc, v_conv, v_fld, v_fldA, v_new, v_box, v_mks, v_copy, v_isnil, v_nilck, v_pick, ev, evs_nil, evs_cons, fr_get_cons, fr_put_nil, fr_put_cons, fr_put_some, fr_put_none, fr_keep_nil, fr_keep_cons, fr_has_nil, fr_has_cons, Option.bind_some, Option.map_some, xbin, ibin, xresult_eq, xress_nil, xress_tmp, resV, ex_some, if_true, if_false, ite_true, ite_false, reduceIte, reduceCtorEq, Nat.reduceEqDiff, Nat.reduceLT, Nat.reduceLeDiff, Int.reduceLT, Int.reduceLE, Nat.zero_add, Nat.reduceAdd, Bool.false_eq_true, decide_eq_true_eq, decide_eq_false_iff_not, true_implies, false_implies, and_true, true_and, beq_self_eq_true, e10]
    refine imcheck_ok T S v4 H7 (L.set a bl) _ (hsec6.ext x7) hl5 hT (by omega) hS (by omega) (by rw [List.length_set]; exact hLL) ?_
    intro H8 x8
    have e11 := fin x _ p8 (by rw [List.getElem_set_ne hat]) (hl _ (List.getElem_mem _)) H8 (x7.trans x8)
    simp only [ofArgs, run_seq, run_block, run_ops, run_skip, run_exit, run_ret, thenQ_normal, thenQ_exit, thenQ_ret, blockQ_normal, blockQ_exit, blockQ_ret, retQ_ret, retQ_normal, ops_nil, ops_none, got_some, ops_wT, ops_wTn, ops_wF, ops_wFn, ops_wU, dops_wT, dops_wTn, dops_wF, dops_wFn, dops_wU, run_condT, run_condF, alt2_int, altB_bool, altI_int, altBB_bool, v_min, v_max, v_not, v_neg, optEv_none, optEv_some, isSome'_none, isSome'_some, pExt0, pExt1, pExt2, Bool.false_and, Bool.true_and, Bool.not_true, Bool.not_false, cond_true, cond_false, dops_nil, dops_none, xval_call, v_mov, v_bin, v_len, v_ext, v_idxA, v_ld, v_st, v_app, v_appN, v_cvs, v_bs1, pBs1, v_slc, v_conv, v_fld, v_fldA, v_new, v_box, v_mks, v_copy, v_isnil, v_nilck, v_pick, ev, evs_nil, evs_cons, fr_get_cons, fr_put_nil, fr_put_cons, fr_put_some, fr_put_none, fr_keep_nil, fr_keep_cons, fr_has_nil, fr_has_cons, Option.bind_some, Option.map_some, xbin, ibin, xresult_eq, xress_nil, xress_tmp, resV, ex_some, if_true, if_false, ite_true, ite_false, reduceIte, reduceCtorEq, Nat.reduceEqDiff, Nat.reduceLT, Nat.reduceLeDiff, Int.reduceLT, Int.reduceLE, Nat.zero_add, Nat.reduceAdd, Bool.false_eq_true, decide_eq_true_eq, decide_eq_false_iff_not, true_implies, false_implies, and_true, true_and, beq_self_eq_true, e11]
end Go.Proofs.Ytkhjmmidaihbhaa.D
