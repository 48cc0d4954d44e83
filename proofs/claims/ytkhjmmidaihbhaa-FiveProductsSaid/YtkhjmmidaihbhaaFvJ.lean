/- What functions that the law reaches compute, on a heap of the run's own: the conditions stand in each theorem. -/
import Derived.Test.YtkhjmmidaihbhaaFvI
set_option linter.unusedSimpArgs false
set_option linter.unusedVariables false
namespace Go.Proofs.Ytkhjmmidaihbhaa.D
open Go Go.Det

def int5n (f : F5) : Nat := if 0 ≤ xp f then mt f * 2 ^ (xp f).toNat else if xp f > -32 then mt f / 2 ^ (-(xp f)).toNat else 0
def int5r (f : F5) : Nat := if 0 ≤ xp f then 0 else if xp f > -32 then (if mt f % 2 ^ (-(xp f)).toNat ≠ 0 then 1 else 0) else (if mt f ≠ 0 then 1 else 0)
def int5 (f : F5) : Int × Int := if xp f > 30 then (0, 21) else if sg f then (-((int5n f + int5r f : Nat) : Int), 0) else ((int5n f : Int), 0)
theorem int5n_lt (f : F5) (hf : Ok5 f) (h : ¬ xp f > 30) : int5n f < 4611686018427387904 := by
  have hm := mt_lt f hf
  unfold int5n
  split
  · have h1 : 2 ^ (xp f).toNat ≤ 2 ^ 30 := Nat.pow_le_pow_right (by omega) (by omega)
    have h2 : mt f * 2 ^ (xp f).toNat ≤ mt f * 2 ^ 30 := Nat.mul_le_mul_left _ h1
    omega
  · split
    · have := Nat.div_le_self (mt f) (2 ^ (-(xp f)).toNat); omega
    · omega
set_option maxHeartbeats 4000000 in
theorem int_ok (f : F5) (hf : Ok5 f) (H : AH) (Q : Value → AH → Prop) (hq : ∀ H', HExt H H' → Q (.tuple #[.int .i64 (int5 f).1, .int .i64 (int5 f).2]) H') : Got (xc Try.prog tab 56 [A5 (enc f)] H) Q := by
  refine got_call (res := [.tmp 2, .tmp 3]) rfl ?_
  have i5 := in5_push H (enc f)
  have x5 := hext_push H ⟨(enc f).cells, 1, false, false⟩
  have l5 := ld5 i5
  generalize hT : ((.seq (.seq (.ops [⟨some 47, .mov (.tmp 5), none⟩, ⟨some 48, .flat (.unOp .not 4 (.tmp 47)) 4, none⟩] [8, 9, 48]) (.cond (.tmp 48) (.seq (.ops [⟨some 49, .mov (.tmp 8), none⟩, ⟨some 2, .mov (.tmp 49), none⟩, ⟨some 3, .mov (.const (.int .i64 0)), none⟩] [2, 3]) .ret) .skip)) (.seq (.seq (.ops [⟨some 50, .mov (.tmp 9), none⟩] [8, 50]) (.cond (.tmp 50) (.ops [⟨some 51, .mov (.tmp 8), none⟩, ⟨some 52, .bin .add (.tmp 51) (.const (.int .i64 1)), none⟩, ⟨some 8, .mov (.tmp 52), none⟩] [8]) .skip)) (.seq (.ops [⟨some 53, .mov (.tmp 8), none⟩, ⟨some 54, .flat (.unOp .neg 3 (.tmp 53)) 3, none⟩, ⟨some 2, .mov (.tmp 54), none⟩, ⟨some 3, .mov (.const (.int .i64 0)), none⟩] [2, 3]) .ret))) : XCode) = T
  simp only [ofArgs, run_seq, run_block, run_ops, run_skip, run_exit, run_ret, thenQ_normal, thenQ_exit, thenQ_ret, blockQ_normal, blockQ_exit, blockQ_ret, retQ_ret, retQ_normal, ops_nil, ops_none, got_some, ops_wT, ops_wTn, ops_wF, ops_wFn, ops_wU, dops_wT, dops_wTn, dops_wF, dops_wFn, dops_wU, run_condT, run_condF, alt2_int, altB_bool, altI_int, altBB_bool, v_min, v_max, v_not, v_neg, optEv_none, optEv_some, isSome'_none, isSome'_some, pExt0, pExt1, pExt2, Bool.false_and, Bool.true_and, Bool.not_true, Bool.not_false, cond_true, cond_false, dops_nil, dops_none, xval_call, v_mov, v_bin, v_len, v_ext, v_idxA, v_ld, v_st, v_app, v_appN, v_cvs, v_bs1, pBs1, v_slc, v_conv, v_fld, v_fldA, v_new, v_box, v_mks, v_copy, v_isnil, v_nilck, v_pick, ev, evs_nil, evs_cons, fr_get_cons, fr_put_nil, fr_put_cons, fr_put_some, fr_put_none, fr_keep_nil, fr_keep_cons, fr_has_nil, fr_has_cons, Option.bind_some, Option.map_some, xbin, ibin, xresult_eq, xress_nil, xress_tmp, resV, ex_some, if_true, if_false, ite_true, ite_false, reduceIte, reduceCtorEq, Nat.reduceEqDiff, Nat.reduceLT, Nat.reduceLeDiff, Int.reduceLT, Int.reduceLE, Nat.zero_add, Nat.reduceAdd, Bool.false_eq_true, decide_eq_true_eq, decide_eq_false_iff_not, true_implies, false_implies, and_true, true_and, cells_A5, l5]
  have hn0 : (H.push ⟨(enc f).cells, 1, false, false⟩).n = H.n + 1 := rfl
  generalize H.push ⟨(enc f).cells, 1, false, false⟩ = H0 at i5 x5 hn0
  refine check_ok f hf H0 _ ?_
  intro H1 x1
  have l5 := ld5 (i5.ext x1 (by omega))
  have c1 : ((0 : Int) != 0) = false := rfl
  simp only [ofArgs, run_seq, run_block, run_ops, run_skip, run_exit, run_ret, thenQ_normal, thenQ_exit, thenQ_ret, blockQ_normal, blockQ_exit, blockQ_ret, retQ_ret, retQ_normal, ops_nil, ops_none, got_some, ops_wT, ops_wTn, ops_wF, ops_wFn, ops_wU, dops_wT, dops_wTn, dops_wF, dops_wFn, dops_wU, run_condT, run_condF, alt2_int, altB_bool, altI_int, altBB_bool, v_min, v_max, v_not, v_neg, optEv_none, optEv_some, isSome'_none, isSome'_some, pExt0, pExt1, pExt2, Bool.false_and, Bool.true_and, Bool.not_true, Bool.not_false, cond_true, cond_false, dops_nil, dops_none, xval_call, v_mov, v_bin, v_len, v_ext, v_idxA, v_ld, v_st, v_app, v_appN, v_cvs, v_bs1, pBs1, v_slc, v_conv, v_fld, v_fldA, v_new, v_box, v_mks, v_copy, v_isnil, v_nilck, v_pick, ev, evs_nil, evs_cons, fr_get_cons, fr_put_nil, fr_put_cons, fr_put_some, fr_put_none, fr_keep_nil, fr_keep_cons, fr_has_nil, fr_has_cons, Option.bind_some, Option.map_some, xbin, ibin, xresult_eq, xress_nil, xress_tmp, resV, ex_some, if_true, if_false, ite_true, ite_false, reduceIte, reduceCtorEq, Nat.reduceEqDiff, Nat.reduceLT, Nat.reduceLeDiff, Int.reduceLT, Int.reduceLE, Nat.zero_add, Nat.reduceAdd, Bool.false_eq_true, decide_eq_true_eq, decide_eq_false_iff_not, true_implies, false_implies, and_true, true_and, c1, l5]
  refine parts_ok f hf H1 _ ?_
  intro H2 x2
  have xx := x5.trans (x1.trans x2)
  have hx := xp_le f hf
  have hm := mt_lt f hf
  unfold int5 at hq
  by_cases c30 : xp f > 30
  · rw [if_pos c30] at hq
    simp only [ofArgs, run_seq, run_block, run_ops, run_skip, run_exit, run_ret, thenQ_normal, thenQ_exit, thenQ_ret, blockQ_normal, blockQ_exit, blockQ_ret, retQ_ret, retQ_normal, ops_nil, ops_none, got_some, ops_wT, ops_wTn, ops_wF, ops_wFn, ops_wU, dops_wT, dops_wTn, dops_wF, dops_wFn, dops_wU, run_condT, run_condF, alt2_int, altB_bool, altI_int, altBB_bool, v_min, v_max, v_not, v_neg, optEv_none, optEv_some, isSome'_none, isSome'_some, pExt0, pExt1, pExt2, Bool.false_and, Bool.true_and, Bool.not_true, Bool.not_false, cond_true, cond_false, dops_nil, dops_none, xval_call, v_mov, v_bin, v_len, v_ext, v_idxA, v_ld, v_st, v_app, v_appN, v_cvs, v_bs1, pBs1, v_slc, v_conv, v_fld, v_fldA, v_new, v_box, v_mks, v_copy, v_isnil, v_nilck, v_pick, ev, evs_nil, evs_cons, fr_get_cons, fr_put_nil, fr_put_cons, fr_put_some, fr_put_none, fr_keep_nil, fr_keep_cons, fr_has_nil, fr_has_cons, Option.bind_some, Option.map_some, xbin, ibin, xresult_eq, xress_nil, xress_tmp, resV, ex_some, if_true, if_false, ite_true, ite_false, reduceIte, reduceCtorEq, Nat.reduceEqDiff, Nat.reduceLT, Nat.reduceLeDiff, Int.reduceLT, Int.reduceLE, Nat.zero_add, Nat.reduceAdd, Bool.false_eq_true, decide_eq_true_eq, decide_eq_false_iff_not, true_implies, false_implies, and_true, true_and, prt_eq, c30, decide_true]
    exact hq _ xx
  rw [if_neg c30] at hq
  have hn := int5n_lt f hf c30
  have hr : int5r f ≤ 1 := by unfold int5r; split; omega; split <;> split <;> omega
  have w9 := wrI (-((int5n f + int5r f : Nat) : Int)) (by omega) (by omega)
  have w10 : IntKind.i64.wrap ((int5n f : Int) + 1) = ((int5n f + 1 : Nat) : Int) := by rw [wrI _ (by omega) (by omega)]; omega
  have fin : ∀ (N : Nat) (r : Bool), int5n f = N → int5r f = r.toNat → Run Try.prog tab T [(5, .bool (sg f)), (8, .int .i64 (N : Int)), (9, .bool r)] H2 (retQ [.tmp 2, .tmp 3] Q) := by
    intro N r hN hR
    subst hT
    rw [hN] at hq w9 w10
    rw [hR] at hq w9
    cases hs : sg f
    · rw [hs, if_neg (by decide)] at hq
      simp only [ofArgs, run_seq, run_block, run_ops, run_skip, run_exit, run_ret, thenQ_normal, thenQ_exit, thenQ_ret, blockQ_normal, blockQ_exit, blockQ_ret, retQ_ret, retQ_normal, ops_nil, ops_none, got_some, ops_wT, ops_wTn, ops_wF, ops_wFn, ops_wU, dops_wT, dops_wTn, dops_wF, dops_wFn, dops_wU, run_condT, run_condF, alt2_int, altB_bool, altI_int, altBB_bool, v_min, v_max, v_not, v_neg, optEv_none, optEv_some, isSome'_none, isSome'_some, pExt0, pExt1, pExt2, Bool.false_and, Bool.true_and, Bool.not_true, Bool.not_false, cond_true, cond_false, dops_nil, dops_none, xval_call, v_mov, v_bin, v_len, v_ext, v_idxA, v_ld, v_st, v_app, v_appN, v_cvs, v_bs1, pBs1, v_slc, v_conv, v_fld, v_fldA, v_new, v_box, v_mks, v_copy, v_isnil, v_nilck, v_pick, ev, evs_nil, evs_cons, fr_get_cons, fr_put_nil, fr_put_cons, fr_put_some, fr_put_none, fr_keep_nil, fr_keep_cons, fr_has_nil, fr_has_cons, Option.bind_some, Option.map_some, xbin, ibin, xresult_eq, xress_nil, xress_tmp, resV, ex_some, if_true, if_false, ite_true, ite_false, reduceIte, reduceCtorEq, Nat.reduceEqDiff, Nat.reduceLT, Nat.reduceLeDiff, Int.reduceLT, Int.reduceLE, Nat.zero_add, Nat.reduceAdd, Bool.false_eq_true, decide_eq_true_eq, decide_eq_false_iff_not, true_implies, false_implies, and_true, true_and]
      exact hq _ xx
    · rw [hs, if_pos rfl] at hq
      cases r
      · simp only [Bool.toNat_false, Nat.add_zero] at hq w9
        simp only [ofArgs, run_seq, run_block, run_ops, run_skip, run_exit, run_ret, thenQ_normal, thenQ_exit, thenQ_ret, blockQ_normal, blockQ_exit, blockQ_ret, retQ_ret, retQ_normal, ops_nil, ops_none, got_some, ops_wT, ops_wTn, ops_wF, ops_wFn, ops_wU, dops_wT, dops_wTn, dops_wF, dops_wFn, dops_wU, run_condT, run_condF, alt2_int, altB_bool, altI_int, altBB_bool, v_min, v_max, v_not, v_neg, optEv_none, optEv_some, isSome'_none, isSome'_some, pExt0, pExt1, pExt2, Bool.false_and, Bool.true_and, Bool.not_true, Bool.not_false, cond_true, cond_false, dops_nil, dops_none, xval_call, v_mov, v_bin, v_len, v_ext, v_idxA, v_ld, v_st, v_app, v_appN, v_cvs, v_bs1, pBs1, v_slc, v_conv, v_fld, v_fldA, v_new, v_box, v_mks, v_copy, v_isnil, v_nilck, v_pick, ev, evs_nil, evs_cons, fr_get_cons, fr_put_nil, fr_put_cons, fr_put_some, fr_put_none, fr_keep_nil, fr_keep_cons, fr_has_nil, fr_has_cons, Option.bind_some, Option.map_some, xbin, ibin, xresult_eq, xress_nil, xress_tmp, resV, ex_some, if_true, if_false, ite_true, ite_false, reduceIte, reduceCtorEq, Nat.reduceEqDiff, Nat.reduceLT, Nat.reduceLeDiff, Int.reduceLT, Int.reduceLE, Nat.zero_add, Nat.reduceAdd, Bool.false_eq_true, decide_eq_true_eq, decide_eq_false_iff_not, true_implies, false_implies, and_true, true_and, v_neg, w9]
        exact hq _ xx
      · simp only [Bool.toNat_true] at hq w9
        simp only [ofArgs, run_seq, run_block, run_ops, run_skip, run_exit, run_ret, thenQ_normal, thenQ_exit, thenQ_ret, blockQ_normal, blockQ_exit, blockQ_ret, retQ_ret, retQ_normal, ops_nil, ops_none, got_some, ops_wT, ops_wTn, ops_wF, ops_wFn, ops_wU, dops_wT, dops_wTn, dops_wF, dops_wFn, dops_wU, run_condT, run_condF, alt2_int, altB_bool, altI_int, altBB_bool, v_min, v_max, v_not, v_neg, optEv_none, optEv_some, isSome'_none, isSome'_some, pExt0, pExt1, pExt2, Bool.false_and, Bool.true_and, Bool.not_true, Bool.not_false, cond_true, cond_false, dops_nil, dops_none, xval_call, v_mov, v_bin, v_len, v_ext, v_idxA, v_ld, v_st, v_app, v_appN, v_cvs, v_bs1, pBs1, v_slc, v_conv, v_fld, v_fldA, v_new, v_box, v_mks, v_copy, v_isnil, v_nilck, v_pick, ev, evs_nil, evs_cons, fr_get_cons, fr_put_nil, fr_put_cons, fr_put_some, fr_put_none, fr_keep_nil, fr_keep_cons, fr_has_nil, fr_has_cons, Option.bind_some, Option.map_some, xbin, ibin, xresult_eq, xress_nil, xress_tmp, resV, ex_some, if_true, if_false, ite_true, ite_false, reduceIte, reduceCtorEq, Nat.reduceEqDiff, Nat.reduceLT, Nat.reduceLeDiff, Int.reduceLT, Int.reduceLE, Nat.zero_add, Nat.reduceAdd, Bool.false_eq_true, decide_eq_true_eq, decide_eq_false_iff_not, true_implies, false_implies, and_true, true_and, v_neg, w10, w9]
        exact hq _ xx
  clear hq w9 w10
  by_cases c0 : xp f ≥ 0
  · have n0 : ¬ xp f < 0 := by omega
    have m0 : min (Int.toNat (xp f)) IntKind.u64.bits = (xp f).toNat := by show min _ 64 = _; omega
    have hN : int5n f = mt f * 2 ^ (xp f).toNat := by unfold int5n; rw [if_pos c0]
    rw [hN] at hn
    have w1 : IntKind.u64.wrap ((mt f : Int) * 2 ^ (xp f).toNat) = ((mt f * 2 ^ (xp f).toNat : Nat) : Int) := by
      rw [show (mt f : Int) * 2 ^ (xp f).toNat = ((mt f * 2 ^ (xp f).toNat : Nat) : Int) by rw [Int.natCast_mul, Int.natCast_pow]; rfl, wrU _ (by omega)]
    have w2 := wrI ((mt f * 2 ^ (xp f).toNat : Nat) : Int) (by omega) (by omega)
    simp only [ofArgs, run_seq, run_block, run_ops, run_skip, run_exit, run_ret, thenQ_normal, thenQ_exit, thenQ_ret, blockQ_normal, blockQ_exit, blockQ_ret, retQ_ret, retQ_normal, ops_nil, ops_none, got_some, ops_wT, ops_wTn, ops_wF, ops_wFn, ops_wU, dops_wT, dops_wTn, dops_wF, dops_wFn, dops_wU, run_condT, run_condF, alt2_int, altB_bool, altI_int, altBB_bool, v_min, v_max, v_not, v_neg, optEv_none, optEv_some, isSome'_none, isSome'_some, pExt0, pExt1, pExt2, Bool.false_and, Bool.true_and, Bool.not_true, Bool.not_false, cond_true, cond_false, dops_nil, dops_none, xval_call, v_mov, v_bin, v_len, v_ext, v_idxA, v_ld, v_st, v_app, v_appN, v_cvs, v_bs1, pBs1, v_slc, v_conv, v_fld, v_fldA, v_new, v_box, v_mks, v_copy, v_isnil, v_nilck, v_pick, ev, evs_nil, evs_cons, fr_get_cons, fr_put_nil, fr_put_cons, fr_put_some, fr_put_none, fr_keep_nil, fr_keep_cons, fr_has_nil, fr_has_cons, Option.bind_some, Option.map_some, xbin, ibin, xresult_eq, xress_nil, xress_tmp, resV, ex_some, if_true, if_false, ite_true, ite_false, reduceIte, reduceCtorEq, Nat.reduceEqDiff, Nat.reduceLT, Nat.reduceLeDiff, Int.reduceLT, Int.reduceLE, Nat.zero_add, Nat.reduceAdd, Bool.false_eq_true, decide_eq_true_eq, decide_eq_false_iff_not, true_implies, false_implies, and_true, true_and, prt_eq, c30, c0, decide_true, decide_false, n0, m0, w1, pConv, w2]
    exact fin _ false hN (by unfold int5r; rw [if_pos c0]; rfl)
  by_cases c32 : xp f > -32
  · have n0 : ¬ -(xp f) < 0 := by omega
    have m0 : min (Int.toNat (-(xp f))) IntKind.u64.bits = (-(xp f)).toNat := by show min _ 64 = _; omega
    have w0 := wrI (-(xp f)) (by omega) (by omega)
    have hN : int5n f = mt f / 2 ^ (-(xp f)).toNat := by unfold int5n; rw [if_neg c0, if_pos c32]
    have hR : int5r f = (if mt f % 2 ^ (-(xp f)).toNat ≠ 0 then 1 else 0) := by unfold int5r; rw [if_neg c0, if_pos c32]
    rw [hN] at hn
    obtain ⟨d, hd⟩ : ∃ d, d = (-(xp f)).toNat := ⟨_, rfl⟩
    rw [← hd] at hN hR hn
    have m0 : min (Int.toNat (-(xp f))) IntKind.u64.bits = d := by rw [← hd]; show min _ 64 = _; omega
    have hd31 : d ≤ 31 := by omega
    have pn : (2 : Nat) ^ d < 18446744073709551616 := Nat.lt_of_lt_of_le (Nat.pow_lt_pow_right (by omega) (by omega : d < 61)) (by decide)
    have pp := Nat.pow_pos (n := d) (by omega : 0 < 2)
    have k1 : IntKind.u64.wrap (1 * 2 ^ d) = ((2 ^ d : Nat) : Int) := by rw [Int.one_mul, show (2 : Int) ^ d = ((2 ^ d : Nat) : Int) from (Int.natCast_pow 2 _).symm, wrU _ pn]
    have k2 : IntKind.u64.wrap (((2 ^ d : Nat) : Int) - 1) = ((2 ^ d - 1 : Nat) : Int) := by rw [show ((2 ^ d : Nat) : Int) - 1 = ((2 ^ d - 1 : Nat) : Int) by omega, wrU _ (by omega)]
    have k3 := u_and (mt f) (2 ^ d - 1) (by omega) (by omega)
    rw [and_pow] at k3
    have k4 : ((mt f : Nat) : Int).fdiv (2 ^ d) = ((mt f / 2 ^ d : Nat) : Int) := by rw [shrN, Nat.shiftRight_eq_div_pow]
    have w2 := wrI ((mt f / 2 ^ d : Nat) : Int) (by omega) (by omega)
    simp only [ofArgs, run_seq, run_block, run_ops, run_skip, run_exit, run_ret, thenQ_normal, thenQ_exit, thenQ_ret, blockQ_normal, blockQ_exit, blockQ_ret, retQ_ret, retQ_normal, ops_nil, ops_none, got_some, ops_wT, ops_wTn, ops_wF, ops_wFn, ops_wU, dops_wT, dops_wTn, dops_wF, dops_wFn, dops_wU, run_condT, run_condF, alt2_int, altB_bool, altI_int, altBB_bool, v_min, v_max, v_not, v_neg, optEv_none, optEv_some, isSome'_none, isSome'_some, pExt0, pExt1, pExt2, Bool.false_and, Bool.true_and, Bool.not_true, Bool.not_false, cond_true, cond_false, dops_nil, dops_none, xval_call, v_mov, v_bin, v_len, v_ext, v_idxA, v_ld, v_st, v_app, v_appN, v_cvs, v_bs1, pBs1, v_slc, v_conv, v_fld, v_fldA, v_new, v_box, v_mks, v_copy, v_isnil, v_nilck, v_pick, ev, evs_nil, evs_cons, fr_get_cons, fr_put_nil, fr_put_cons, fr_put_some, fr_put_none, fr_keep_nil, fr_keep_cons, fr_has_nil, fr_has_cons, Option.bind_some, Option.map_some, xbin, ibin, xresult_eq, xress_nil, xress_tmp, resV, ex_some, if_true, if_false, ite_true, ite_false, reduceIte, reduceCtorEq, Nat.reduceEqDiff, Nat.reduceLT, Nat.reduceLeDiff, Int.reduceLT, Int.reduceLE, Nat.zero_add, Nat.reduceAdd, Bool.false_eq_true, decide_eq_true_eq, decide_eq_false_iff_not, true_implies, false_implies, and_true, true_and, prt_eq, c30, c0, c32, decide_true, decide_false]
    refine run_dops _ _ _ _ _ rfl ?_
    by_cases cz : mt f % 2 ^ d = 0
    · have cb : (((mt f % 2 ^ d : Nat) : Int) != 0) = false := by rw [cz]; rfl
      simp only [ofArgs, run_seq, run_block, run_ops, run_skip, run_exit, run_ret, thenQ_normal, thenQ_exit, thenQ_ret, blockQ_normal, blockQ_exit, blockQ_ret, retQ_ret, retQ_normal, ops_nil, ops_none, got_some, ops_wT, ops_wTn, ops_wF, ops_wFn, ops_wU, dops_wT, dops_wTn, dops_wF, dops_wFn, dops_wU, run_condT, run_condF, alt2_int, altB_bool, altI_int, altBB_bool, v_min, v_max, v_not, v_neg, optEv_none, optEv_some, isSome'_none, isSome'_some, pExt0, pExt1, pExt2, Bool.false_and, Bool.true_and, Bool.not_true, Bool.not_false, cond_true, cond_false, dops_nil, dops_none, xval_call, v_mov, v_bin, v_len, v_ext, v_idxA, v_ld, v_st, v_app, v_appN, v_cvs, v_bs1, pBs1, v_slc, v_conv, v_fld, v_fldA, v_new, v_box, v_mks, v_copy, v_isnil, v_nilck, v_pick, ev, evs_nil, evs_cons, fr_get_cons, fr_put_nil, fr_put_cons, fr_put_some, fr_put_none, fr_keep_nil, fr_keep_cons, fr_has_nil, fr_has_cons, Option.bind_some, Option.map_some, xbin, ibin, xresult_eq, xress_nil, xress_tmp, resV, ex_some, if_true, if_false, ite_true, ite_false, reduceIte, reduceCtorEq, Nat.reduceEqDiff, Nat.reduceLT, Nat.reduceLeDiff, Int.reduceLT, Int.reduceLE, Nat.zero_add, Nat.reduceAdd, Bool.false_eq_true, decide_eq_true_eq, decide_eq_false_iff_not, true_implies, false_implies, and_true, true_and, v_neg, w0, n0, m0, k4, pConv, w2, k1, k2, k3, cb]
      exact fin _ false hN (by rw [hR, if_neg (by omega)]; rfl)
    · have cb : (((mt f % 2 ^ d : Nat) : Int) != 0) = true := by rw [bne_iff_ne]; intro h; exact cz (Int.ofNat.inj h)
      simp only [ofArgs, run_seq, run_block, run_ops, run_skip, run_exit, run_ret, thenQ_normal, thenQ_exit, thenQ_ret, blockQ_normal, blockQ_exit, blockQ_ret, retQ_ret, retQ_normal, ops_nil, ops_none, got_some, ops_wT, ops_wTn, ops_wF, ops_wFn, ops_wU, dops_wT, dops_wTn, dops_wF, dops_wFn, dops_wU, run_condT, run_condF, alt2_int, altB_bool, altI_int, altBB_bool, v_min, v_max, v_not, v_neg, optEv_none, optEv_some, isSome'_none, isSome'_some, pExt0, pExt1, pExt2, Bool.false_and, Bool.true_and, Bool.not_true, Bool.not_false, cond_true, cond_false, dops_nil, dops_none, xval_call, v_mov, v_bin, v_len, v_ext, v_idxA, v_ld, v_st, v_app, v_appN, v_cvs, v_bs1, pBs1, v_slc, v_conv, v_fld, v_fldA, v_new, v_box, v_mks, v_copy, v_isnil, v_nilck, v_pick, ev, evs_nil, evs_cons, fr_get_cons, fr_put_nil, fr_put_cons, fr_put_some, fr_put_none, fr_keep_nil, fr_keep_cons, fr_has_nil, fr_has_cons, Option.bind_some, Option.map_some, xbin, ibin, xresult_eq, xress_nil, xress_tmp, resV, ex_some, if_true, if_false, ite_true, ite_false, reduceIte, reduceCtorEq, Nat.reduceEqDiff, Nat.reduceLT, Nat.reduceLeDiff, Int.reduceLT, Int.reduceLE, Nat.zero_add, Nat.reduceAdd, Bool.false_eq_true, decide_eq_true_eq, decide_eq_false_iff_not, true_implies, false_implies, and_true, true_and, v_neg, w0, n0, m0, k4, pConv, w2, k1, k2, k3, cb]
      exact fin _ true hN (by rw [hR, if_pos cz]; rfl)
  · by_cases cz : mt f = 0
    · have cb : ((mt f : Int) != 0) = false := by rw [cz]; rfl
      simp only [ofArgs, run_seq, run_block, run_ops, run_skip, run_exit, run_ret, thenQ_normal, thenQ_exit, thenQ_ret, blockQ_normal, blockQ_exit, blockQ_ret, retQ_ret, retQ_normal, ops_nil, ops_none, got_some, ops_wT, ops_wTn, ops_wF, ops_wFn, ops_wU, dops_wT, dops_wTn, dops_wF, dops_wFn, dops_wU, run_condT, run_condF, alt2_int, altB_bool, altI_int, altBB_bool, v_min, v_max, v_not, v_neg, optEv_none, optEv_some, isSome'_none, isSome'_some, pExt0, pExt1, pExt2, Bool.false_and, Bool.true_and, Bool.not_true, Bool.not_false, cond_true, cond_false, dops_nil, dops_none, xval_call, v_mov, v_bin, v_len, v_ext, v_idxA, v_ld, v_st, v_app, v_appN, v_cvs, v_bs1, pBs1, v_slc, v_conv, v_fld, v_fldA, v_new, v_box, v_mks, v_copy, v_isnil, v_nilck, v_pick, ev, evs_nil, evs_cons, fr_get_cons, fr_put_nil, fr_put_cons, fr_put_some, fr_put_none, fr_keep_nil, fr_keep_cons, fr_has_nil, fr_has_cons, Option.bind_some, Option.map_some, xbin, ibin, xresult_eq, xress_nil, xress_tmp, resV, ex_some, if_true, if_false, ite_true, ite_false, reduceIte, reduceCtorEq, Nat.reduceEqDiff, Nat.reduceLT, Nat.reduceLeDiff, Int.reduceLT, Int.reduceLE, Nat.zero_add, Nat.reduceAdd, Bool.false_eq_true, decide_eq_true_eq, decide_eq_false_iff_not, true_implies, false_implies, and_true, true_and, prt_eq, c30, c0, c32, decide_true, decide_false, cb]
      exact fin 0 false (by unfold int5n; rw [if_neg c0, if_neg c32]) (by unfold int5r; rw [if_neg c0, if_neg c32, if_neg (by omega)]; rfl)
    · have cb : ((mt f : Int) != 0) = true := by rw [bne_iff_ne]; intro h; exact cz (Int.ofNat.inj h)
      simp only [ofArgs, run_seq, run_block, run_ops, run_skip, run_exit, run_ret, thenQ_normal, thenQ_exit, thenQ_ret, blockQ_normal, blockQ_exit, blockQ_ret, retQ_ret, retQ_normal, ops_nil, ops_none, got_some, ops_wT, ops_wTn, ops_wF, ops_wFn, ops_wU, dops_wT, dops_wTn, dops_wF, dops_wFn, dops_wU, run_condT, run_condF, alt2_int, altB_bool, altI_int, altBB_bool, v_min, v_max, v_not, v_neg, optEv_none, optEv_some, isSome'_none, isSome'_some, pExt0, pExt1, pExt2, Bool.false_and, Bool.true_and, Bool.not_true, Bool.not_false, cond_true, cond_false, dops_nil, dops_none, xval_call, v_mov, v_bin, v_len, v_ext, v_idxA, v_ld, v_st, v_app, v_appN, v_cvs, v_bs1, pBs1, v_slc, v_conv, v_fld, v_fldA, v_new, v_box, v_mks, v_copy, v_isnil, v_nilck, v_pick, ev, evs_nil, evs_cons, fr_get_cons, fr_put_nil, fr_put_cons, fr_put_some, fr_put_none, fr_keep_nil, fr_keep_cons, fr_has_nil, fr_has_cons, Option.bind_some, Option.map_some, xbin, ibin, xresult_eq, xress_nil, xress_tmp, resV, ex_some, if_true, if_false, ite_true, ite_false, reduceIte, reduceCtorEq, Nat.reduceEqDiff, Nat.reduceLT, Nat.reduceLeDiff, Int.reduceLT, Int.reduceLE, Nat.zero_add, Nat.reduceAdd, Bool.false_eq_true, decide_eq_true_eq, decide_eq_false_iff_not, true_implies, false_implies, and_true, true_and, prt_eq, c30, c0, c32, decide_true, decide_false, cb]
      exact fin 0 true (by unfold int5n; rw [if_neg c0, if_neg c32]) (by unfold int5r; rw [if_neg c0, if_neg c32, if_pos cz]; rfl)

theorem fived_ok (H : AH) (Q : Value → AH → Prop) (hq : ∀ H', HExt H H' → Q (.bool true) H') : Got (xc Try.prog tab 57 [] H) Q := by
  refine got_call (res := [.tmp 0]) rfl ?_
  simp only [ofArgs, run_seq, run_block, run_ops, run_skip, run_exit, run_ret, thenQ_normal, thenQ_exit, thenQ_ret, blockQ_normal, blockQ_exit, blockQ_ret, retQ_ret, retQ_normal, ops_nil, ops_none, got_some, ops_wT, ops_wTn, ops_wF, ops_wFn, ops_wU, dops_wT, dops_wTn, dops_wF, dops_wFn, dops_wU, run_condT, run_condF, alt2_int, altB_bool, altI_int, altBB_bool, v_min, v_max, v_not, v_neg, optEv_none, optEv_some, isSome'_none, isSome'_some, pExt0, pExt1, pExt2, Bool.false_and, Bool.true_and, Bool.not_true, Bool.not_false, cond_true, cond_false, dops_nil, dops_none, xval_call, v_mov, v_bin, v_len, v_ext, v_idxA, v_ld, v_st, v_app, v_appN, v_cvs, v_bs1, pBs1, v_slc, v_conv, v_fld, v_fldA, v_new, v_box, v_mks, v_copy, v_isnil, v_nilck, v_pick, ev, evs_nil, evs_cons, fr_get_cons, fr_put_nil, fr_put_cons, fr_put_some, fr_put_none, fr_keep_nil, fr_keep_cons, fr_has_nil, fr_has_cons, Option.bind_some, Option.map_some, xbin, ibin, xresult_eq, xress_nil, xress_tmp, resV, ex_some, if_true, if_false, ite_true, ite_false, reduceIte, reduceCtorEq, Nat.reduceEqDiff, Nat.reduceLT, Nat.reduceLeDiff, Int.reduceLT, Int.reduceLE, Nat.zero_add, Nat.reduceAdd, Bool.false_eq_true, decide_eq_true_eq, decide_eq_false_iff_not, true_implies, false_implies, and_true, true_and]
  refine fiveOf_ok 1 (by omega) (by omega) H _ ?_
  intro H1 x1
  have ep : pack (decide ((1 : Int) < 0)) (1 : Int).natAbs 0 false = (some (false, 2147483648, 129), 0) := by decide +kernel
  rw [ep]
  have l1 := ld5 (in5_putB H1 (enc (some (false, 2147483648, 129))))
  have ee : enc (some (false, 2147483648, 129)) = ⟨129, 0, 0, 0, 0⟩ := by decide
  rw [ee] at l1
  simp only [ofArgs, run_seq, run_block, run_ops, run_skip, run_exit, run_ret, thenQ_normal, thenQ_exit, thenQ_ret, blockQ_normal, blockQ_exit, blockQ_ret, retQ_ret, retQ_normal, ops_nil, ops_none, got_some, ops_wT, ops_wTn, ops_wF, ops_wFn, ops_wU, dops_wT, dops_wTn, dops_wF, dops_wFn, dops_wU, run_condT, run_condF, alt2_int, altB_bool, altI_int, altBB_bool, v_min, v_max, v_not, v_neg, optEv_none, optEv_some, isSome'_none, isSome'_some, pExt0, pExt1, pExt2, Bool.false_and, Bool.true_and, Bool.not_true, Bool.not_false, cond_true, cond_false, dops_nil, dops_none, xval_call, v_mov, v_bin, v_len, v_ext, v_idxA, v_ld, v_st, v_app, v_appN, v_cvs, v_bs1, pBs1, v_slc, v_conv, v_fld, v_fldA, v_new, v_box, v_mks, v_copy, v_isnil, v_nilck, v_pick, ev, evs_nil, evs_cons, fr_get_cons, fr_put_nil, fr_put_cons, fr_put_some, fr_put_none, fr_keep_nil, fr_keep_cons, fr_has_nil, fr_has_cons, Option.bind_some, Option.map_some, xbin, ibin, xresult_eq, xress_nil, xress_tmp, resV, ex_some, if_true, if_false, ite_true, ite_false, reduceIte, reduceCtorEq, Nat.reduceEqDiff, Nat.reduceLT, Nat.reduceLeDiff, Int.reduceLT, Int.reduceLE, Nat.zero_add, Nat.reduceAdd, Bool.false_eq_true, decide_eq_true_eq, decide_eq_false_iff_not, true_implies, false_implies, and_true, true_and, st5_new, l1, v_b5, altb5_int, v_eq5', alt5_A5, ee, decide_true, beq_self_eq_true]
  exact hq _ (x1.trans (putB_ext H1 _))

/-- the law's numbers -/
def num5 (n x : Int) : F5 := match (pack (decide (n % 8589934592 - 4294967296 < 0)) (n % 8589934592 - 4294967296).natAbs 0 false).1 with
  | none => none
  | some (s, m, _) => some (s, m, 100 + (x % 60).toNat)
theorem num5_ok (n x : Int) : Ok5 (num5 n x) := by
  unfold num5
  have h := pack_good (decide (n % 8589934592 - 4294967296 < 0)) (n % 8589934592 - 4294967296).natAbs 0 false
  split
  · trivial
  · rename_i s m e he
    rw [he] at h
    obtain ⟨h1, h2, _, _⟩ := h
    have hd0 := Int.emod_nonneg x (by omega : (60 : Int) ≠ 0)
    have hd1 := Int.emod_lt_of_pos x (by omega : (0 : Int) < 60)
    exact ⟨h1, h2, by omega, by omega⟩
theorem num5_xp (n x : Int) (h : mt (num5 n x) ≠ 0) : -60 ≤ xp (num5 n x) ∧ xp (num5 n x) ≤ -1 := by
  unfold num5 at h ⊢
  generalize (pack (decide (n % 8589934592 - 4294967296 < 0)) (n % 8589934592 - 4294967296).natAbs 0 false).1 = r at h ⊢
  cases r with
  | none => exact absurd rfl h
  | some p =>
    obtain ⟨s, m, e⟩ := p
    have hd0 := Int.emod_nonneg x (by omega : (60 : Int) ≠ 0)
    have hd1 := Int.emod_lt_of_pos x (by omega : (0 : Int) < 60)
    show -60 ≤ ((100 + (x % 60).toNat : Nat) : Int) - 160 ∧ ((100 + (x % 60).toNat : Nat) : Int) - 160 ≤ -1
    omega
theorem number_ok (n x : Int) (H : AH) (Q : Value → AH → Prop) (hq : ∀ H', HExt H H' → Q (A5 (enc (num5 n x))) H') : Got (xc Try.prog tab 51 [.int .i64 n, .int .i64 x] H) Q := by
  refine got_call (res := [.cell 4 (some 5)]) rfl ?_
  have q1 := fun H => below_xc' n 8589934592 H (by omega) (by omega)
  have q2 := fun H => below_xc' x 60 H (by omega) (by omega)
  have hc0 := Int.emod_nonneg n (by omega : (8589934592 : Int) ≠ 0)
  have hc1 := Int.emod_lt_of_pos n (by omega : (0 : Int) < 8589934592)
  have hd0 := Int.emod_nonneg x (by omega : (60 : Int) ≠ 0)
  have hd1 := Int.emod_lt_of_pos x (by omega : (0 : Int) < 60)
  have w1 := wrI (n % 8589934592 - 4294967296) (by omega) (by omega)
  have w2 := wrI (100 + x % 60) (by omega) (by omega)
  have w3 := wrU8' (100 + x % 60) (by omega) (by omega)
  simp only [ofArgs, run_seq, run_block, run_ops, run_skip, run_exit, run_ret, thenQ_normal, thenQ_exit, thenQ_ret, blockQ_normal, blockQ_exit, blockQ_ret, retQ_ret, retQ_normal, ops_nil, ops_none, got_some, ops_wT, ops_wTn, ops_wF, ops_wFn, ops_wU, dops_wT, dops_wTn, dops_wF, dops_wFn, dops_wU, run_condT, run_condF, alt2_int, altB_bool, altI_int, altBB_bool, v_min, v_max, v_not, v_neg, optEv_none, optEv_some, isSome'_none, isSome'_some, pExt0, pExt1, pExt2, Bool.false_and, Bool.true_and, Bool.not_true, Bool.not_false, cond_true, cond_false, dops_nil, dops_none, xval_call, v_mov, v_bin, v_len, v_ext, v_idxA, v_ld, v_st, v_app, v_appN, v_cvs, v_bs1, pBs1, v_slc, v_conv, v_fld, v_fldA, v_new, v_box, v_mks, v_copy, v_isnil, v_nilck, v_pick, ev, evs_nil, evs_cons, fr_get_cons, fr_put_nil, fr_put_cons, fr_put_some, fr_put_none, fr_keep_nil, fr_keep_cons, fr_has_nil, fr_has_cons, Option.bind_some, Option.map_some, xbin, ibin, xresult_eq, xress_nil, xress_tmp, resV, ex_some, if_true, if_false, ite_true, ite_false, reduceIte, reduceCtorEq, Nat.reduceEqDiff, Nat.reduceLT, Nat.reduceLeDiff, Int.reduceLT, Int.reduceLE, Nat.zero_add, Nat.reduceAdd, Bool.false_eq_true, decide_eq_true_eq, decide_eq_false_iff_not, true_implies, false_implies, and_true, true_and, q1, w1]
  have i0 := in5_push H Z5
  rw [cells_Z5] at i0
  have x0 := hext_push H ⟨[.int .u8 0, .int .u8 0, .int .u8 0, .int .u8 0, .int .u8 0], 1, false, false⟩
  have hn0 : (H.push ⟨[.int .u8 0, .int .u8 0, .int .u8 0, .int .u8 0, .int .u8 0], 1, false, false⟩).n = H.n + 1 := rfl
  generalize H.push ⟨[.int .u8 0, .int .u8 0, .int .u8 0, .int .u8 0, .int .u8 0], 1, false, false⟩ = H0 at i0 x0 hn0
  have hg := pack_good (decide (n % 8589934592 - 4294967296 < 0)) (n % 8589934592 - 4294967296).natAbs 0 false
  refine fiveOf_ok _ (by omega) (by omega) H0 _ ?_
  intro H1 x1
  unfold num5 at hq
  generalize pack (decide (n % 8589934592 - 4294967296 < 0)) (n % 8589934592 - 4294967296).natAbs 0 false = r at hq hg
  obtain ⟨f, er⟩ := r
  simp only [] at hq hg
  have b1 := in5_putB H1 (enc f)
  have x2 := putB_ext H1 (enc f)
  have hn2 := putB_n H1 (enc f)
  have i2 : In5 (putB H1 (enc f)) H.n Z5 := (i0.ext x1 (by omega)).ext x2 (by have := x1.1; omega)
  have xx := x0.trans (x1.trans x2)
  simp only [ofArgs, run_seq, run_block, run_ops, run_skip, run_exit, run_ret, thenQ_normal, thenQ_exit, thenQ_ret, blockQ_normal, blockQ_exit, blockQ_ret, retQ_ret, retQ_normal, ops_nil, ops_none, got_some, ops_wT, ops_wTn, ops_wF, ops_wFn, ops_wU, dops_wT, dops_wTn, dops_wF, dops_wFn, dops_wU, run_condT, run_condF, alt2_int, altB_bool, altI_int, altBB_bool, v_min, v_max, v_not, v_neg, optEv_none, optEv_some, isSome'_none, isSome'_some, pExt0, pExt1, pExt2, Bool.false_and, Bool.true_and, Bool.not_true, Bool.not_false, cond_true, cond_false, dops_nil, dops_none, xval_call, v_mov, v_bin, v_len, v_ext, v_idxA, v_ld, v_st, v_app, v_appN, v_cvs, v_bs1, pBs1, v_slc, v_conv, v_fld, v_fldA, v_new, v_box, v_mks, v_copy, v_isnil, v_nilck, v_pick, ev, evs_nil, evs_cons, fr_get_cons, fr_put_nil, fr_put_cons, fr_put_some, fr_put_none, fr_keep_nil, fr_keep_cons, fr_has_nil, fr_has_cons, Option.bind_some, Option.map_some, xbin, ibin, xresult_eq, xress_nil, xress_tmp, resV, ex_some, if_true, if_false, ite_true, ite_false, reduceIte, reduceCtorEq, Nat.reduceEqDiff, Nat.reduceLT, Nat.reduceLeDiff, Int.reduceLT, Int.reduceLE, Nat.zero_add, Nat.reduceAdd, Bool.false_eq_true, decide_eq_true_eq, decide_eq_false_iff_not, true_implies, false_implies, and_true, true_and, st5_new]
  generalize putB H1 (enc f) = H2 at b1 x2 hn2 i2 xx
  have hl := x1.1
  have e0 := ld5_0 b1
  have l5 := ld5 b1
  cases f with
  | none =>
    have ez : (enc none).e = 0 := rfl
    rw [ez] at e0
    have c0 : ¬ (0 : Int) > 0 := by omega
    have s1 := st5 (enc none) i2
    have hcell := fun (fr : Fr) (xs : List XRes) (h : fr.get 4 = some (.pointer (some ⟨H.n, 0, none⟩))) => xcell5 fr (H2.set H.n ⟨(enc none).cells, 1, false, false⟩) 4 H.n _ xs h (in5_set _ _ _)
    simp only [ofArgs, run_seq, run_block, run_ops, run_skip, run_exit, run_ret, thenQ_normal, thenQ_exit, thenQ_ret, blockQ_normal, blockQ_exit, blockQ_ret, retQ_ret, retQ_normal, ops_nil, ops_none, got_some, ops_wT, ops_wTn, ops_wF, ops_wFn, ops_wU, dops_wT, dops_wTn, dops_wF, dops_wFn, dops_wU, run_condT, run_condF, alt2_int, altB_bool, altI_int, altBB_bool, v_min, v_max, v_not, v_neg, optEv_none, optEv_some, isSome'_none, isSome'_some, pExt0, pExt1, pExt2, Bool.false_and, Bool.true_and, Bool.not_true, Bool.not_false, cond_true, cond_false, dops_nil, dops_none, xval_call, v_mov, v_bin, v_len, v_ext, v_idxA, v_ld, v_st, v_app, v_appN, v_cvs, v_bs1, pBs1, v_slc, v_conv, v_fld, v_fldA, v_new, v_box, v_mks, v_copy, v_isnil, v_nilck, v_pick, ev, evs_nil, evs_cons, fr_get_cons, fr_put_nil, fr_put_cons, fr_put_some, fr_put_none, fr_keep_nil, fr_keep_cons, fr_has_nil, fr_has_cons, Option.bind_some, Option.map_some, xbin, ibin, xresult_eq, xress_nil, xress_tmp, resV, ex_some, if_true, if_false, ite_true, ite_false, reduceIte, reduceCtorEq, Nat.reduceEqDiff, Nat.reduceLT, Nat.reduceLeDiff, Int.reduceLT, Int.reduceLE, Nat.zero_add, Nat.reduceAdd, Bool.false_eq_true, decide_eq_true_eq, decide_eq_false_iff_not, true_implies, false_implies, and_true, true_and, pAA_ptr, aa0, e0, c0, decide_false, l5, s1, hcell]
    exact hq _ (set_keep H H2 _ _ xx (Nat.le_refl _))
  | some p =>
    obtain ⟨s, m, e⟩ := p
    obtain ⟨h1, h2, h3, h4⟩ := hg
    rw [enc_e0] at e0
    have c0 : (e : Int) > 0 := by omega
    have s0 := st5_0 (100 + x % 60) b1
    have he : ({ enc (some (s, m, e)) with e := 100 + x % 60 } : W5) = enc (some (s, m, 100 + (x % 60).toNat)) := by
      have : ((100 + (x % 60).toNat : Nat) : Int) = 100 + x % 60 := by omega
      simp only [enc, this]
    rw [he] at s0
    have b3 := in5_set H2 H1.n (enc (some (s, m, 100 + (x % 60).toNat)))
    have i3 : In5 (H2.set H1.n ⟨(enc (some (s, m, 100 + (x % 60).toNat))).cells, 1, false, false⟩) H.n Z5 := by unfold In5; rw [AH.get_set, if_neg (by omega)]; exact i2
    have x3 := set_keep H H2 H1.n (enc (some (s, m, 100 + (x % 60).toNat))) xx (by omega)
    generalize (H2.set H1.n ⟨(enc (some (s, m, 100 + (x % 60).toNat))).cells, 1, false, false⟩) = H3 at s0 b3 i3 x3
    have l5' := ld5 b3
    have s1 := st5 (enc (some (s, m, 100 + (x % 60).toNat))) i3
    have hcell := fun (fr : Fr) (xs : List XRes) (h : fr.get 4 = some (.pointer (some ⟨H.n, 0, none⟩))) => xcell5 fr (H3.set H.n ⟨(enc (some (s, m, 100 + (x % 60).toNat))).cells, 1, false, false⟩) 4 H.n _ xs h (in5_set _ _ _)
    simp only [ofArgs, run_seq, run_block, run_ops, run_skip, run_exit, run_ret, thenQ_normal, thenQ_exit, thenQ_ret, blockQ_normal, blockQ_exit, blockQ_ret, retQ_ret, retQ_normal, ops_nil, ops_none, got_some, ops_wT, ops_wTn, ops_wF, ops_wFn, ops_wU, dops_wT, dops_wTn, dops_wF, dops_wFn, dops_wU, run_condT, run_condF, alt2_int, altB_bool, altI_int, altBB_bool, v_min, v_max, v_not, v_neg, optEv_none, optEv_some, isSome'_none, isSome'_some, pExt0, pExt1, pExt2, Bool.false_and, Bool.true_and, Bool.not_true, Bool.not_false, cond_true, cond_false, dops_nil, dops_none, xval_call, v_mov, v_bin, v_len, v_ext, v_idxA, v_ld, v_st, v_app, v_appN, v_cvs, v_bs1, pBs1, v_slc, v_conv, v_fld, v_fldA, v_new, v_box, v_mks, v_copy, v_isnil, v_nilck, v_pick, ev, evs_nil, evs_cons, fr_get_cons, fr_put_nil, fr_put_cons, fr_put_some, fr_put_none, fr_keep_nil, fr_keep_cons, fr_has_nil, fr_has_cons, Option.bind_some, Option.map_some, xbin, ibin, xresult_eq, xress_nil, xress_tmp, resV, ex_some, if_true, if_false, ite_true, ite_false, reduceIte, reduceCtorEq, Nat.reduceEqDiff, Nat.reduceLT, Nat.reduceLeDiff, Int.reduceLT, Int.reduceLE, Nat.zero_add, Nat.reduceAdd, Bool.false_eq_true, decide_eq_true_eq, decide_eq_false_iff_not, true_implies, false_implies, and_true, true_and, pAA_ptr, aa0, e0, c0, decide_true, q2, w2, pConv, w3, s0, l5', s1, hcell]
    exact hq _ (set_keep H H3 _ _ x3 (Nat.le_refl _))
end Go.Proofs.Ytkhjmmidaihbhaa.D
