/- What functions that the law reaches compute, on a heap of the run's own: the conditions stand in each theorem. -/
import Derived.Test.YtbkmkelohlmblaaFvP
set_option linter.unusedSimpArgs false
set_option linter.unusedVariables false
namespace Go.Proofs.Ytbkmkelohlmblaa.D
open Go Go.Det

def div5 (f g : F5) : F5 × Int :=
  if mt g = 0 then (none, 11) else if mt f = 0 then (none, 0)
  else pack (!(sg f == sg g)) (mt f * 17179869184 / mt g) (xp f - xp g - 34) (((mt f * 17179869184 % mt g : Nat) : Int) != 0)
set_option maxHeartbeats 4000000 in
theorem div_ok (f g : F5) (hf : Ok5 f) (hg : Ok5 g) (H : AH) (Q : Value → AH → Prop) (hq : ∀ H', HExt H H' → Q (.tuple #[A5 (enc (div5 f g).1), .int .i64 (div5 f g).2]) H') : Got (xc Try.prog tab 6 [A5 (enc f), A5 (enc g)] H) Q := by
  refine got_call (res := [.cell 4 (some 5), .tmp 5]) rfl ?_
  obtain ⟨i2, i3, i4, hn, x0⟩ := three5 H (enc f) (enc g)
  have l2 := ld5 i2
  have l3 := ld5 i3
  generalize hT : ((.seq (.ops [⟨some 29, .ld (some 5) (.tmp 3), none⟩, ⟨some 30, .call 13 [.tmp 29], none⟩, ⟨some 28, .mov (.tmp 30), none⟩, ⟨some 31, .ext (.tmp 28) 0, none⟩, ⟨some 32, .ext (.tmp 28) 1, none⟩, ⟨some 33, .ext (.tmp 28) 2, none⟩, ⟨some 10, .mov (.tmp 31), none⟩, ⟨some 11, .mov (.tmp 32), none⟩, ⟨some 12, .mov (.tmp 33), none⟩] [4, 7, 8, 9, 10, 11, 12]) (.seq (.block 0 (.seq (.ops [⟨some 35, .mov (.tmp 11), none⟩, ⟨some 36, .bin .eql (.tmp 35) (.const (.int .u64 0)), none⟩, ⟨some 34, .mov (.tmp 36), none⟩] [4, 7, 8, 9, 10, 11, 12, 34]) (.cond (.tmp 34) (.seq (.ops [⟨some 37, .build [.int .u8 0, .int .u8 0, .int .u8 0, .int .u8 0, .int .u8 0] [], none⟩, ⟨none, .st 5 (.tmp 4) (.tmp 37), none⟩, ⟨some 5, .mov (.const (.int .i64 11)), none⟩] [4, 5]) .ret) (.seq (.ops [⟨some 39, .mov (.tmp 8), none⟩, ⟨some 40, .bin .eql (.tmp 39) (.const (.int .u64 0)), none⟩, ⟨some 38, .mov (.tmp 40), none⟩] [4, 7, 8, 9, 10, 11, 12, 38]) (.cond (.tmp 38) (.seq (.ops [⟨some 41, .build [.int .u8 0, .int .u8 0, .int .u8 0, .int .u8 0, .int .u8 0] [], none⟩, ⟨none, .st 5 (.tmp 4) (.tmp 41), none⟩, ⟨some 5, .mov (.const (.int .i64 0)), none⟩] [4, 5]) .ret) .skip))))) (.seq (.ops [⟨some 43, .mov (.tmp 8), none⟩, ⟨some 44, .bin .shr (.tmp 43) (.const (.int .u64 30)), none⟩, ⟨some 45, .mov (.tmp 8), none⟩, ⟨some 46, .bin .shl (.tmp 45) (.const (.int .u64 34)), none⟩, ⟨some 47, .mov (.tmp 11), none⟩, ⟨some 48, .call 14 [.tmp 44, .tmp 46, .tmp 47], none⟩, ⟨some 42, .mov (.tmp 48), none⟩, ⟨some 49, .ext (.tmp 42) 0, none⟩, ⟨some 50, .ext (.tmp 42) 1, none⟩, ⟨some 13, .mov (.tmp 49), none⟩, ⟨some 14, .mov (.tmp 50), none⟩] [4, 7, 9, 10, 12, 13, 14]) (.seq (.ops [⟨some 51, .mov (.tmp 7), none⟩, ⟨some 52, .mov (.tmp 10), none⟩, ⟨some 53, .flat (.binOp .neq 4 (.tmp 51) (.tmp 52) 4) 4, none⟩, ⟨some 54, .mov (.tmp 13), none⟩, ⟨some 55, .mov (.tmp 9), none⟩, ⟨some 56, .mov (.tmp 12), none⟩, ⟨some 57, .bin .sub (.tmp 55) (.tmp 56), none⟩, ⟨some 58, .bin .sub (.tmp 57) (.const (.int .i64 34)), none⟩, ⟨some 59, .mov (.tmp 14), none⟩, ⟨some 60, .bin .neq (.tmp 59) (.const (.int .u64 0)), none⟩, ⟨some 61, .call 15 [.tmp 53, .tmp 54, .tmp 58, .tmp 60], none⟩, ⟨some 62, .ext (.tmp 61) 0, none⟩, ⟨some 63, .ext (.tmp 61) 1, none⟩, ⟨none, .st 5 (.tmp 4) (.tmp 62), none⟩, ⟨some 5, .mov (.tmp 63), none⟩] [4, 5]) .ret)))) : XCode) = T
  simp only [ofArgs, run_seq, run_block, run_ops, run_skip, run_exit, run_ret, thenQ_normal, thenQ_exit, thenQ_ret, blockQ_normal, blockQ_exit, blockQ_ret, retQ_ret, retQ_normal, ops_nil, ops_none, got_some, ops_wT, ops_wTn, ops_wF, ops_wFn, ops_wU, dops_wT, dops_wTn, dops_wF, dops_wFn, dops_wU, run_condT, run_condF, alt2_int, altB_bool, altI_int, altBB_bool, v_min, v_max, v_not, v_neg, optEv_none, optEv_some, isSome'_none, isSome'_some, pExt0, pExt1, pExt2, Bool.false_and, Bool.true_and, Bool.not_true, Bool.not_false, cond_true, cond_false, dops_nil, dops_none, xval_call, v_mov, v_bin, v_len, v_ext, v_idxA, v_ld, v_st, v_app, v_appN, v_cvs, v_bs1, pBs1, v_slc, v_conv, v_fld, v_fldA, v_new, v_box, v_mks, v_copy, v_isnil, v_nilck, v_pick, ev, evs_nil, evs_cons, fr_get_cons, fr_put_nil, fr_put_cons, fr_put_some, fr_put_none, fr_keep_nil, fr_keep_cons, fr_has_nil, fr_has_cons, Option.bind_some, Option.map_some, xbin, ibin, xresult_eq, xress_nil, xress_tmp, resV, ex_some, if_true, if_false, ite_true, ite_false, reduceIte, reduceCtorEq, Nat.reduceEqDiff, Nat.reduceLT, Nat.reduceLeDiff, Int.reduceLT, Int.reduceLE, Nat.zero_add, Nat.reduceAdd, Bool.false_eq_true, decide_eq_true_eq, decide_eq_false_iff_not, true_implies, false_implies, and_true, true_and, cells_A5, AH.push_n, l2, l3]
  generalize ((H.push ⟨(enc f).cells, 1, false, false⟩).push ⟨(enc g).cells, 1, false, false⟩).push ⟨[.int .u8 0, .int .u8 0, .int .u8 0, .int .u8 0, .int .u8 0], 1, false, false⟩ = H0 at i2 i3 i4 hn x0
  refine both_ok f g hf hg H0 _ ?_
  intro H1 x1
  have c1 : ((0 : Int) != 0) = false := rfl
  have l2 := ld5 (i2.ext x1 (by omega))
  simp only [ofArgs, run_seq, run_block, run_ops, run_skip, run_exit, run_ret, thenQ_normal, thenQ_exit, thenQ_ret, blockQ_normal, blockQ_exit, blockQ_ret, retQ_ret, retQ_normal, ops_nil, ops_none, got_some, ops_wT, ops_wTn, ops_wF, ops_wFn, ops_wU, dops_wT, dops_wTn, dops_wF, dops_wFn, dops_wU, run_condT, run_condF, alt2_int, altB_bool, altI_int, altBB_bool, v_min, v_max, v_not, v_neg, optEv_none, optEv_some, isSome'_none, isSome'_some, pExt0, pExt1, pExt2, Bool.false_and, Bool.true_and, Bool.not_true, Bool.not_false, cond_true, cond_false, dops_nil, dops_none, xval_call, v_mov, v_bin, v_len, v_ext, v_idxA, v_ld, v_st, v_app, v_appN, v_cvs, v_bs1, pBs1, v_slc, v_conv, v_fld, v_fldA, v_new, v_box, v_mks, v_copy, v_isnil, v_nilck, v_pick, ev, evs_nil, evs_cons, fr_get_cons, fr_put_nil, fr_put_cons, fr_put_some, fr_put_none, fr_keep_nil, fr_keep_cons, fr_has_nil, fr_has_cons, Option.bind_some, Option.map_some, xbin, ibin, xresult_eq, xress_nil, xress_tmp, resV, ex_some, if_true, if_false, ite_true, ite_false, reduceIte, reduceCtorEq, Nat.reduceEqDiff, Nat.reduceLT, Nat.reduceLeDiff, Int.reduceLT, Int.reduceLE, Nat.zero_add, Nat.reduceAdd, Bool.false_eq_true, decide_eq_true_eq, decide_eq_false_iff_not, true_implies, false_implies, and_true, true_and, c1, l2]
  refine parts_ok f hf H1 _ ?_
  intro H2 x2
  have x12 := x1.trans x2
  have l3 := ld5 (i3.ext x12 (by omega))
  subst hT
  generalize hT : ((.seq (.block 0 (.seq (.ops [⟨some 35, .mov (.tmp 11), none⟩, ⟨some 36, .bin .eql (.tmp 35) (.const (.int .u64 0)), none⟩, ⟨some 34, .mov (.tmp 36), none⟩] [4, 7, 8, 9, 10, 11, 12, 34]) (.cond (.tmp 34) (.seq (.ops [⟨some 37, .build [.int .u8 0, .int .u8 0, .int .u8 0, .int .u8 0, .int .u8 0] [], none⟩, ⟨none, .st 5 (.tmp 4) (.tmp 37), none⟩, ⟨some 5, .mov (.const (.int .i64 11)), none⟩] [4, 5]) .ret) (.seq (.ops [⟨some 39, .mov (.tmp 8), none⟩, ⟨some 40, .bin .eql (.tmp 39) (.const (.int .u64 0)), none⟩, ⟨some 38, .mov (.tmp 40), none⟩] [4, 7, 8, 9, 10, 11, 12, 38]) (.cond (.tmp 38) (.seq (.ops [⟨some 41, .build [.int .u8 0, .int .u8 0, .int .u8 0, .int .u8 0, .int .u8 0] [], none⟩, ⟨none, .st 5 (.tmp 4) (.tmp 41), none⟩, ⟨some 5, .mov (.const (.int .i64 0)), none⟩] [4, 5]) .ret) .skip))))) (.seq (.ops [⟨some 43, .mov (.tmp 8), none⟩, ⟨some 44, .bin .shr (.tmp 43) (.const (.int .u64 30)), none⟩, ⟨some 45, .mov (.tmp 8), none⟩, ⟨some 46, .bin .shl (.tmp 45) (.const (.int .u64 34)), none⟩, ⟨some 47, .mov (.tmp 11), none⟩, ⟨some 48, .call 14 [.tmp 44, .tmp 46, .tmp 47], none⟩, ⟨some 42, .mov (.tmp 48), none⟩, ⟨some 49, .ext (.tmp 42) 0, none⟩, ⟨some 50, .ext (.tmp 42) 1, none⟩, ⟨some 13, .mov (.tmp 49), none⟩, ⟨some 14, .mov (.tmp 50), none⟩] [4, 7, 9, 10, 12, 13, 14]) (.seq (.ops [⟨some 51, .mov (.tmp 7), none⟩, ⟨some 52, .mov (.tmp 10), none⟩, ⟨some 53, .flat (.binOp .neq 4 (.tmp 51) (.tmp 52) 4) 4, none⟩, ⟨some 54, .mov (.tmp 13), none⟩, ⟨some 55, .mov (.tmp 9), none⟩, ⟨some 56, .mov (.tmp 12), none⟩, ⟨some 57, .bin .sub (.tmp 55) (.tmp 56), none⟩, ⟨some 58, .bin .sub (.tmp 57) (.const (.int .i64 34)), none⟩, ⟨some 59, .mov (.tmp 14), none⟩, ⟨some 60, .bin .neq (.tmp 59) (.const (.int .u64 0)), none⟩, ⟨some 61, .call 15 [.tmp 53, .tmp 54, .tmp 58, .tmp 60], none⟩, ⟨some 62, .ext (.tmp 61) 0, none⟩, ⟨some 63, .ext (.tmp 61) 1, none⟩, ⟨none, .st 5 (.tmp 4) (.tmp 62), none⟩, ⟨some 5, .mov (.tmp 63), none⟩] [4, 5]) .ret))) : XCode) = T
  simp only [ofArgs, run_seq, run_block, run_ops, run_skip, run_exit, run_ret, thenQ_normal, thenQ_exit, thenQ_ret, blockQ_normal, blockQ_exit, blockQ_ret, retQ_ret, retQ_normal, ops_nil, ops_none, got_some, ops_wT, ops_wTn, ops_wF, ops_wFn, ops_wU, dops_wT, dops_wTn, dops_wF, dops_wFn, dops_wU, run_condT, run_condF, alt2_int, altB_bool, altI_int, altBB_bool, v_min, v_max, v_not, v_neg, optEv_none, optEv_some, isSome'_none, isSome'_some, pExt0, pExt1, pExt2, Bool.false_and, Bool.true_and, Bool.not_true, Bool.not_false, cond_true, cond_false, dops_nil, dops_none, xval_call, v_mov, v_bin, v_len, v_ext, v_idxA, v_ld, v_st, v_app, v_appN, v_cvs, v_bs1, pBs1, v_slc, v_conv, v_fld, v_fldA, v_new, v_box, v_mks, v_copy, v_isnil, v_nilck, v_pick, ev, evs_nil, evs_cons, fr_get_cons, fr_put_nil, fr_put_cons, fr_put_some, fr_put_none, fr_keep_nil, fr_keep_cons, fr_has_nil, fr_has_cons, Option.bind_some, Option.map_some, xbin, ibin, xresult_eq, xress_nil, xress_tmp, resV, ex_some, if_true, if_false, ite_true, ite_false, reduceIte, reduceCtorEq, Nat.reduceEqDiff, Nat.reduceLT, Nat.reduceLeDiff, Int.reduceLT, Int.reduceLE, Nat.zero_add, Nat.reduceAdd, Bool.false_eq_true, decide_eq_true_eq, decide_eq_false_iff_not, true_implies, false_implies, and_true, true_and, prt_eq, l3]
  refine parts_ok g hg H2 _ ?_
  intro H3 x3
  have x13 := x12.trans x3
  have m1 := mt_lt f hf
  have m2 := mt_lt g hg
  have y1 := xp_le f hf
  have y2 := xp_le g hg
  have i4' := i4.ext x13 (by omega)
  have x03 := x0.trans x13
  subst hT
  have ez : enc none = Z5 := rfl
  have s2 := st5 (enc none) i4'
  have hcell := fun (fr : Fr) (xs : List XRes) (h : fr.get 4 = some (.pointer (some ⟨H.n + 1 + 1, 0, none⟩))) => xcell5 fr (H3.set (H.n + 1 + 1) ⟨(enc none).cells, 1, false, false⟩) 4 (H.n + 1 + 1) _ xs h (in5_set _ _ _)
  by_cases g0 : mt g = 0
  · have c2 : ((mt g : Int) == 0) = true := by simp [g0]
    unfold div5 at hq
    rw [if_pos g0] at hq
    rw [ez] at s2 hcell hq
    simp only [ofArgs, run_seq, run_block, run_ops, run_skip, run_exit, run_ret, thenQ_normal, thenQ_exit, thenQ_ret, blockQ_normal, blockQ_exit, blockQ_ret, retQ_ret, retQ_normal, ops_nil, ops_none, got_some, ops_wT, ops_wTn, ops_wF, ops_wFn, ops_wU, dops_wT, dops_wTn, dops_wF, dops_wFn, dops_wU, run_condT, run_condF, alt2_int, altB_bool, altI_int, altBB_bool, v_min, v_max, v_not, v_neg, optEv_none, optEv_some, isSome'_none, isSome'_some, pExt0, pExt1, pExt2, Bool.false_and, Bool.true_and, Bool.not_true, Bool.not_false, cond_true, cond_false, dops_nil, dops_none, xval_call, v_mov, v_bin, v_len, v_ext, v_idxA, v_ld, v_st, v_app, v_appN, v_cvs, v_bs1, pBs1, v_slc, v_conv, v_fld, v_fldA, v_new, v_box, v_mks, v_copy, v_isnil, v_nilck, v_pick, ev, evs_nil, evs_cons, fr_get_cons, fr_put_nil, fr_put_cons, fr_put_some, fr_put_none, fr_keep_nil, fr_keep_cons, fr_has_nil, fr_has_cons, Option.bind_some, Option.map_some, xbin, ibin, xresult_eq, xress_nil, xress_tmp, resV, ex_some, if_true, if_false, ite_true, ite_false, reduceIte, reduceCtorEq, Nat.reduceEqDiff, Nat.reduceLT, Nat.reduceLeDiff, Int.reduceLT, Int.reduceLE, Nat.zero_add, Nat.reduceAdd, Bool.false_eq_true, decide_eq_true_eq, decide_eq_false_iff_not, true_implies, false_implies, and_true, true_and, prt_eq, c2, v_z5, s2, hcell]
    rw [← ez] at hq
    exact hq _ (set_keep H H3 _ _ x03 (by omega))
  have c2 : ((mt g : Int) == 0) = false := by simp [g0]
  by_cases f0 : mt f = 0
  · have c3 : ((mt f : Int) == 0) = true := by simp [f0]
    unfold div5 at hq
    rw [if_neg g0, if_pos f0] at hq
    rw [ez] at s2 hcell hq
    simp only [ofArgs, run_seq, run_block, run_ops, run_skip, run_exit, run_ret, thenQ_normal, thenQ_exit, thenQ_ret, blockQ_normal, blockQ_exit, blockQ_ret, retQ_ret, retQ_normal, ops_nil, ops_none, got_some, ops_wT, ops_wTn, ops_wF, ops_wFn, ops_wU, dops_wT, dops_wTn, dops_wF, dops_wFn, dops_wU, run_condT, run_condF, alt2_int, altB_bool, altI_int, altBB_bool, v_min, v_max, v_not, v_neg, optEv_none, optEv_some, isSome'_none, isSome'_some, pExt0, pExt1, pExt2, Bool.false_and, Bool.true_and, Bool.not_true, Bool.not_false, cond_true, cond_false, dops_nil, dops_none, xval_call, v_mov, v_bin, v_len, v_ext, v_idxA, v_ld, v_st, v_app, v_appN, v_cvs, v_bs1, pBs1, v_slc, v_conv, v_fld, v_fldA, v_new, v_box, v_mks, v_copy, v_isnil, v_nilck, v_pick, ev, evs_nil, evs_cons, fr_get_cons, fr_put_nil, fr_put_cons, fr_put_some, fr_put_none, fr_keep_nil, fr_keep_cons, fr_has_nil, fr_has_cons, Option.bind_some, Option.map_some, xbin, ibin, xresult_eq, xress_nil, xress_tmp, resV, ex_some, if_true, if_false, ite_true, ite_false, reduceIte, reduceCtorEq, Nat.reduceEqDiff, Nat.reduceLT, Nat.reduceLeDiff, Int.reduceLT, Int.reduceLE, Nat.zero_add, Nat.reduceAdd, Bool.false_eq_true, decide_eq_true_eq, decide_eq_false_iff_not, true_implies, false_implies, and_true, true_and, prt_eq, c2, c3, v_z5, s2, hcell]
    rw [← ez] at hq
    exact hq _ (set_keep H H3 _ _ x03 (by omega))
  have c3 : ((mt f : Int) == 0) = false := by simp [f0]
  have b1 := mt_ge f hf f0
  have b2 := mt_ge g hg g0
  generalize hT : ((.seq (.ops [⟨some 43, .mov (.tmp 8), none⟩, ⟨some 44, .bin .shr (.tmp 43) (.const (.int .u64 30)), none⟩, ⟨some 45, .mov (.tmp 8), none⟩, ⟨some 46, .bin .shl (.tmp 45) (.const (.int .u64 34)), none⟩, ⟨some 47, .mov (.tmp 11), none⟩, ⟨some 48, .call 14 [.tmp 44, .tmp 46, .tmp 47], none⟩, ⟨some 42, .mov (.tmp 48), none⟩, ⟨some 49, .ext (.tmp 42) 0, none⟩, ⟨some 50, .ext (.tmp 42) 1, none⟩, ⟨some 13, .mov (.tmp 49), none⟩, ⟨some 14, .mov (.tmp 50), none⟩] [4, 7, 9, 10, 12, 13, 14]) (.seq (.ops [⟨some 51, .mov (.tmp 7), none⟩, ⟨some 52, .mov (.tmp 10), none⟩, ⟨some 53, .flat (.binOp .neq 4 (.tmp 51) (.tmp 52) 4) 4, none⟩, ⟨some 54, .mov (.tmp 13), none⟩, ⟨some 55, .mov (.tmp 9), none⟩, ⟨some 56, .mov (.tmp 12), none⟩, ⟨some 57, .bin .sub (.tmp 55) (.tmp 56), none⟩, ⟨some 58, .bin .sub (.tmp 57) (.const (.int .i64 34)), none⟩, ⟨some 59, .mov (.tmp 14), none⟩, ⟨some 60, .bin .neq (.tmp 59) (.const (.int .u64 0)), none⟩, ⟨some 61, .call 15 [.tmp 53, .tmp 54, .tmp 58, .tmp 60], none⟩, ⟨some 62, .ext (.tmp 61) 0, none⟩, ⟨some 63, .ext (.tmp 61) 1, none⟩, ⟨none, .st 5 (.tmp 4) (.tmp 62), none⟩, ⟨some 5, .mov (.tmp 63), none⟩] [4, 5]) .ret)) : XCode) = T
  simp only [ofArgs, run_seq, run_block, run_ops, run_skip, run_exit, run_ret, thenQ_normal, thenQ_exit, thenQ_ret, blockQ_normal, blockQ_exit, blockQ_ret, retQ_ret, retQ_normal, ops_nil, ops_none, got_some, ops_wT, ops_wTn, ops_wF, ops_wFn, ops_wU, dops_wT, dops_wTn, dops_wF, dops_wFn, dops_wU, run_condT, run_condF, alt2_int, altB_bool, altI_int, altBB_bool, v_min, v_max, v_not, v_neg, optEv_none, optEv_some, isSome'_none, isSome'_some, pExt0, pExt1, pExt2, Bool.false_and, Bool.true_and, Bool.not_true, Bool.not_false, cond_true, cond_false, dops_nil, dops_none, xval_call, v_mov, v_bin, v_len, v_ext, v_idxA, v_ld, v_st, v_app, v_appN, v_cvs, v_bs1, pBs1, v_slc, v_conv, v_fld, v_fldA, v_new, v_box, v_mks, v_copy, v_isnil, v_nilck, v_pick, ev, evs_nil, evs_cons, fr_get_cons, fr_put_nil, fr_put_cons, fr_put_some, fr_put_none, fr_keep_nil, fr_keep_cons, fr_has_nil, fr_has_cons, Option.bind_some, Option.map_some, xbin, ibin, xresult_eq, xress_nil, xress_tmp, resV, ex_some, if_true, if_false, ite_true, ite_false, reduceIte, reduceCtorEq, Nat.reduceEqDiff, Nat.reduceLT, Nat.reduceLeDiff, Int.reduceLT, Int.reduceLE, Nat.zero_add, Nat.reduceAdd, Bool.false_eq_true, decide_eq_true_eq, decide_eq_false_iff_not, true_implies, false_implies, and_true, true_and, prt_eq, c2, c3]
  subst hT
  have m30 : min (Int.toNat 30) IntKind.u64.bits = 30 := rfl
  have m34 : min (Int.toNat 34) IntKind.u64.bits = 34 := rfl
  have n30 : ¬ (30 : Int) < 0 := by decide
  have n34 : ¬ (34 : Int) < 0 := by decide
  have p34 : (2 : Int) ^ 34 = 17179869184 := rfl
  have s30 : ((mt f : Nat) : Int).fdiv (2 ^ 30) = ((mt f / 1073741824 : Nat) : Int) := by rw [shrN, Nat.shiftRight_eq_div_pow]
  have s34 : IntKind.u64.wrap ((mt f : Int) * 17179869184) = ((mt f % 1073741824 * 17179869184 : Nat) : Int) := by rw [wrU64]; omega
  have dv := div64_xc (mt f) (mt g) _ _ b1 m1 b2 m2 rfl rfl H3
  have w1 := wrI (xp f - xp g) (by omega) (by omega)
  have w2 := wrI (xp f - xp g - 34) (by omega) (by omega)
  have mm : mt f * 17179869184 / mt g < 18446744073709551616 := by
    have := Nat.div_le_self (mt f * 17179869184) (mt g)
    rw [Nat.div_lt_iff_lt_mul (by omega)]; omega
  simp only [ofArgs, run_seq, run_block, run_ops, run_skip, run_exit, run_ret, thenQ_normal, thenQ_exit, thenQ_ret, blockQ_normal, blockQ_exit, blockQ_ret, retQ_ret, retQ_normal, ops_nil, ops_none, got_some, ops_wT, ops_wTn, ops_wF, ops_wFn, ops_wU, dops_wT, dops_wTn, dops_wF, dops_wFn, dops_wU, run_condT, run_condF, alt2_int, altB_bool, altI_int, altBB_bool, v_min, v_max, v_not, v_neg, optEv_none, optEv_some, isSome'_none, isSome'_some, pExt0, pExt1, pExt2, Bool.false_and, Bool.true_and, Bool.not_true, Bool.not_false, cond_true, cond_false, dops_nil, dops_none, xval_call, v_mov, v_bin, v_len, v_ext, v_idxA, v_ld, v_st, v_app, v_appN, v_cvs, v_bs1, pBs1, v_slc, v_conv, v_fld, v_fldA, v_new, v_box, v_mks, v_copy, v_isnil, v_nilck, v_pick, ev, evs_nil, evs_cons, fr_get_cons, fr_put_nil, fr_put_cons, fr_put_some, fr_put_none, fr_keep_nil, fr_keep_cons, fr_has_nil, fr_has_cons, Option.bind_some, Option.map_some, xbin, ibin, xresult_eq, xress_nil, xress_tmp, resV, ex_some, if_true, if_false, ite_true, ite_false, reduceIte, reduceCtorEq, Nat.reduceEqDiff, Nat.reduceLT, Nat.reduceLeDiff, Int.reduceLT, Int.reduceLE, Nat.zero_add, Nat.reduceAdd, Bool.false_eq_true, decide_eq_true_eq, decide_eq_false_iff_not, true_implies, false_implies, and_true, true_and, v_neb', m30, m34, n30, n34, p34, s30, s34, dv, w1, w2]
  refine pack_ok _ _ mm _ (by omega) (by omega) _ H3 _ ?_
  intro H4 x4
  have x14 := x13.trans x4
  unfold div5 at hq
  rw [if_neg g0, if_neg f0] at hq
  generalize pack (!(sg f == sg g)) (mt f * 17179869184 / mt g) (xp f - xp g - 34) (((mt f * 17179869184 % mt g : Nat) : Int) != 0) = r at hq
  have s1 := st5 (enc r.1) (i4.ext x14 (by omega))
  have hcell := fun (fr : Fr) (xs : List XRes) (h : fr.get 4 = some (.pointer (some ⟨H.n + 1 + 1, 0, none⟩))) => xcell5 fr (H4.set (H.n + 1 + 1) ⟨(enc r.1).cells, 1, false, false⟩) 4 (H.n + 1 + 1) _ xs h (in5_set _ _ _)
  simp only [ofArgs, run_seq, run_block, run_ops, run_skip, run_exit, run_ret, thenQ_normal, thenQ_exit, thenQ_ret, blockQ_normal, blockQ_exit, blockQ_ret, retQ_ret, retQ_normal, ops_nil, ops_none, got_some, ops_wT, ops_wTn, ops_wF, ops_wFn, ops_wU, dops_wT, dops_wTn, dops_wF, dops_wFn, dops_wU, run_condT, run_condF, alt2_int, altB_bool, altI_int, altBB_bool, v_min, v_max, v_not, v_neg, optEv_none, optEv_some, isSome'_none, isSome'_some, pExt0, pExt1, pExt2, Bool.false_and, Bool.true_and, Bool.not_true, Bool.not_false, cond_true, cond_false, dops_nil, dops_none, xval_call, v_mov, v_bin, v_len, v_ext, v_idxA, v_ld, v_st, v_app, v_appN, v_cvs, v_bs1, pBs1, v_slc, v_conv, v_fld, v_fldA, v_new, v_box, v_mks, v_copy, v_isnil, v_nilck, v_pick, ev, evs_nil, evs_cons, fr_get_cons, fr_put_nil, fr_put_cons, fr_put_some, fr_put_none, fr_keep_nil, fr_keep_cons, fr_has_nil, fr_has_cons, Option.bind_some, Option.map_some, xbin, ibin, xresult_eq, xress_nil, xress_tmp, resV, ex_some, if_true, if_false, ite_true, ite_false, reduceIte, reduceCtorEq, Nat.reduceEqDiff, Nat.reduceLT, Nat.reduceLeDiff, Int.reduceLT, Int.reduceLE, Nat.zero_add, Nat.reduceAdd, Bool.false_eq_true, decide_eq_true_eq, decide_eq_false_iff_not, true_implies, false_implies, and_true, true_and, s1, hcell]
  exact hq _ (set_keep H H4 _ _ (x0.trans x14) (by omega))

/-! ### products -/
theorem pack_val (s : Bool) (k j : Nat) (hk : k < 4294967296) (x : Int) (h0 : k ≠ 0) (h1 : -120 ≤ x + j) (h2 : x + j ≤ 60) : pack s (k * 2 ^ j) x false = (some (s, k * 2 ^ (32 - bl k), (x + j + bl k + 128).toNat), 0) := by
  unfold pack
  have hb := bl_mono (k := 32) (x := k) (by omega)
  have hp := Nat.pow_pos (n := j) (by omega : 0 < 2)
  have hz : k * 2 ^ j ≠ 0 := by have := Nat.mul_le_mul_right (2 ^ j) (by omega : 1 ≤ k); omega
  rw [if_neg hz, pkm_exact k j h0 hb false rfl]
  unfold fin5
  have := bl_pos k h0
  rw [if_neg (by show ¬ (x + ((bl k : Int) + j - 32) + 160 > 255); omega), if_neg (by show ¬ (x + ((bl k : Int) + j - 32) + 160 < 1); omega)]
  have e : (x + ((bl k : Int) + j - 32) + 160) = x + j + bl k + 128 := by omega
  show (some (s, k * 2 ^ (32 - bl k), (x + ((bl k : Int) + j - 32) + 160).toNat), (0 : Int)) = _
  rw [e]
theorem mul_comm5 (f g : F5) : mul5 f g = mul5 g f := by
  unfold mul5
  rw [Nat.mul_comm, Int.add_comm]
  have : (sg f == sg g) = (sg g == sg f) := by cases sg f <;> cases sg g <;> rfl
  rw [this]
theorem mul_ints (s : Bool) (k m : Nat) (hk : k ≤ 65536) (hm : m ≤ 32768) (hm0 : m ≠ 0) : (mul5 (I5 s k) (I5 false m)) = ((if k = 0 then none else I5 s (k * m)), 0) := by
  by_cases h0 : k = 0
  · subst h0
    rw [if_pos rfl, I5_0]
    unfold mul5 pack
    have : mt none * mt (I5 false m) = 0 := Nat.zero_mul _
    rw [if_pos this]
  rw [if_neg h0]
  unfold mul5
  rw [I5_mt s k h0, I5_mt false m hm0, I5_xp s k h0, I5_xp false m hm0, I5_sg s k h0, I5_sg false m hm0]
  have b1 := bl_mono (k := 32) (x := k) (by omega)
  have b2 := bl_mono (k := 32) (x := m) (by omega)
  have e1 : k * 2 ^ (32 - bl k) * (m * 2 ^ (32 - bl m)) = k * m * 2 ^ (32 - bl k + (32 - bl m)) := by
    rw [Nat.pow_add]; simp only [Nat.mul_comm, Nat.mul_left_comm, Nat.mul_assoc]
  have e2 : (bl k : Int) - 32 + ((bl m : Int) - 32) = -((32 - bl k + (32 - bl m) : Nat) : Int) := by omega
  have hs : (!(s == false)) = s := by cases s <;> rfl
  rw [e1, e2, hs, pack_int s (k * m) _ (by have := Nat.mul_le_mul hk hm; omega)]
theorem div_ints (s : Bool) (k m : Nat) (hk : k ≤ 65536) (hm : m ≤ 32768) (hm0 : m ≠ 0) : div5 (if k = 0 then none else I5 s (k * m)) (I5 false m) = (I5 s k, 0) := by
  have hmg : mt (I5 false m) ≠ 0 := by
    rw [I5_mt false m hm0]
    have := low32 m hm0 (bl_mono (by omega))
    omega
  by_cases h0 : k = 0
  · subst h0
    rw [if_pos rfl, I5_0]
    unfold div5
    rw [if_neg hmg, if_pos (show mt none = 0 from rfl)]
  rw [if_neg h0]
  have hkm : k * m < 4294967296 := by have := Nat.mul_le_mul hk hm; omega
  have hkm0 : k * m ≠ 0 := Nat.mul_ne_zero h0 hm0
  have b1 := bl_mono (k := 32) (x := k * m) hkm
  have b2 := bl_mono (k := 32) (x := m) (by omega)
  have b3 : bl (k * m) ≤ 17 + bl m := by
    refine bl_mono ?_
    have h1 := bl_lt m
    have : k < 2 ^ 17 := by omega
    rw [Nat.pow_add]
    exact Nat.mul_lt_mul'' this h1
  have hfg : mt (I5 s (k * m)) ≠ 0 := by
    rw [I5_mt s (k * m) hkm0]
    have := low32 (k * m) hkm0 b1
    omega
  unfold div5
  rw [if_neg hmg, if_neg hfg, I5_mt s (k * m) hkm0, I5_mt false m hm0, I5_xp s (k * m) hkm0, I5_xp false m hm0, I5_sg s (k * m) hkm0, I5_sg false m hm0]
  have e1 : k * m * 2 ^ (32 - bl (k * m)) * 17179869184 = k * 2 ^ (34 + bl m - bl (k * m)) * (m * 2 ^ (32 - bl m)) := by
    have : (17179869184 : Nat) = 2 ^ 34 := rfl
    rw [this]
    have e : 2 ^ (32 - bl (k * m)) * 2 ^ 34 = 2 ^ (34 + bl m - bl (k * m)) * 2 ^ (32 - bl m) := by
      rw [← Nat.pow_add, ← Nat.pow_add]
      congr 1
      omega
    rw [Nat.mul_assoc (k * m), e]
    simp only [Nat.mul_comm, Nat.mul_left_comm, Nat.mul_assoc]
  have hp : 0 < m * 2 ^ (32 - bl m) := by
    have := low32 m hm0 b2
    omega
  rw [e1, Nat.mul_div_cancel _ hp, Nat.mul_mod_left]
  have e2 : (bl (k * m) : Int) - 32 - ((bl m : Int) - 32) - 34 = -((34 + bl m - bl (k * m) : Nat) : Int) := by omega
  have hs : (!(s == false)) = s := by cases s <;> rfl
  have hr : ((((0 : Nat) : Int)) != 0) = false := rfl
  rw [e2, hs, hr, pack_int s k _ (by omega)]
/-- twice a number -/
def twice : F5 → F5
  | none => none
  | some (s, m, e) => some (s, m, e + 1)
theorem two_I5 : I5 false 2 = some (false, 2147483648, 130) := by
  have b : bl 2 = 2 := bl_eq 2 1 (by omega) (by omega)
  unfold I5
  rw [if_neg (by decide), b]
theorem mul_two (f : F5) (hf : Ok5 f) (hx : mt f ≠ 0 → -60 ≤ xp f ∧ xp f ≤ -1) : mul5 f (I5 false 2) = (twice f, 0) := by
  rw [two_I5]
  cases f with
  | none => unfold mul5 pack; rw [if_pos (by exact Nat.zero_mul _)]; rfl
  | some p =>
    obtain ⟨s, m, e⟩ := p
    obtain ⟨h1, h2, h3, h4⟩ := hf
    have hx := hx (by show m ≠ 0; omega)
    have hxe : xp (some (s, m, e)) = (e : Int) - 160 := rfl
    rw [hxe] at hx
    unfold mul5
    have e1 : mt (some (s, m, e)) * mt (some (false, 2147483648, 130)) = m * 2 ^ 31 := rfl
    have e2 : xp (some (false, 2147483648, 130)) = -30 := rfl
    have hs : (!(sg (some (s, m, e)) == sg (some (false, 2147483648, 130)))) = s := by cases s <;> rfl
    have hb : bl m = 32 := bl_eq m 31 (by omega) (by omega)
    rw [e1, e2, hs, hxe, pack_val s m 31 h2 _ (by omega) (by omega) (by omega), hb, Nat.sub_self, Nat.pow_zero, Nat.mul_one]
    have : ((e : Int) - 160 + -30 + ((31 : Nat) : Int) + ((32 : Nat) : Int) + 128).toNat = e + 1 := by omega
    rw [this]
    rfl
theorem twice_ok (f : F5) (hf : Ok5 f) (hx : mt f ≠ 0 → -60 ≤ xp f ∧ xp f ≤ -1) : Ok5 (twice f) := by
  cases f with
  | none => trivial
  | some p =>
    obtain ⟨s, m, e⟩ := p
    obtain ⟨h1, h2, h3, h4⟩ := hf
    have hx := hx (by show m ≠ 0; omega)
    have hxe : xp (some (s, m, e)) = (e : Int) - 160 := rfl
    rw [hxe] at hx
    exact ⟨h1, h2, by omega, by omega⟩
theorem enc_twice (s : Bool) (m e : Nat) : enc (twice (some (s, m, e))) = { enc (some (s, m, e)) with e := ((e + 1 : Nat) : Int) } := rfl
end Go.Proofs.Ytbkmkelohlmblaa.D
