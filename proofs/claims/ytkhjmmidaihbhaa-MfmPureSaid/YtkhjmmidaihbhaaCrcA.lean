/- What functions that the law reaches compute, on a heap of the run's own: the conditions stand in each theorem. -/
import Derived.Test.YtkhjmmidaihbhaaMkA
import Derived.Test.YtkhjmmidaihbhaaDet23
set_option linter.unusedSimpArgs false
set_option linter.unusedVariables false
namespace Go.Proofs.Ytkhjmmidaihbhaa.D
open Go Go.Det

/-- one step of the sum -/
def crcStep (x : Nat) : Nat := if 65535 < x * 2 then (x * 2) ^^^ 69665 else x * 2
def crcRounds : Nat → Nat → Nat
  | 0, x => x
  | k + 1, x => crcRounds k (crcStep x)
/-- the sum with a further byte -/
def nx (s c : Nat) : Nat := crcRounds 8 ((s &&& 65535) ^^^ (c * 256))

theorem crcStep_lt (x : Nat) (h : x < 65536) : crcStep x < 65536 := by
  unfold crcStep
  split
  · have h1 : ((x * 2) ^^^ 69665) = ((x * 2 - 65536) ^^^ 4129) := by
      have e1 : x * 2 = 2 ^ 16 * 1 + (x * 2 - 65536) := by omega
      have e2 : (69665 : Nat) = 2 ^ 16 * 1 + 4129 := by decide
      apply Nat.eq_of_testBit_eq
      intro b
      rw [Nat.testBit_xor, Nat.testBit_xor]
      rcases Nat.lt_or_ge b 16 with hb | hb
      · have a1 : (x * 2).testBit b = (x * 2 - 65536).testBit b := by
          conv => lhs; rw [e1]
          rw [Nat.testBit_two_pow_mul_add _ (by omega), if_pos hb]
        have a2 : (69665 : Nat).testBit b = (4129 : Nat).testBit b := by
          rw [e2, Nat.testBit_two_pow_mul_add _ (by omega), if_pos hb]
        rw [a1, a2]
      · have a1 : (x * 2).testBit b = (1 : Nat).testBit (b - 16) := by
          conv => lhs; rw [e1]
          rw [Nat.testBit_two_pow_mul_add _ (by omega), if_neg (by omega)]
        have a2 : (69665 : Nat).testBit b = (1 : Nat).testBit (b - 16) := by
          rw [e2, Nat.testBit_two_pow_mul_add _ (by omega), if_neg (by omega)]
        have a3 : (x * 2 - 65536).testBit b = false := Nat.testBit_lt_two_pow (Nat.lt_of_lt_of_le (by omega : x * 2 - 65536 < 2 ^ 16) (Nat.pow_le_pow_right (by omega) hb))
        have a4 : (4129 : Nat).testBit b = false := Nat.testBit_lt_two_pow (Nat.lt_of_lt_of_le (by omega : 4129 < 2 ^ 16) (Nat.pow_le_pow_right (by omega) hb))
        rw [a1, a2, a3, a4]; simp
    rw [h1]
    exact Nat.xor_lt_two_pow (n := 16) (by omega) (by omega)
  · omega

theorem next_l0 (k : Nat) : ∀ (x : Nat) (i : Int) (H : AH) (Q : XExit → Fr → AH → Prop), x < 65536 → i = 8 - (k : Int) → k ≤ 8 →
    Q (.exit 0) [(0, .int .i64 (crcRounds k x : Nat)), (11, .int .i64 8), (12, .bool false)] H →
    Run Try.prog tab (.loop xcrc_Next_l0) [(0, .int .i64 (x : Nat)), (11, .int .i64 i)] H Q := by
  induction k with
  | zero =>
    intro x i H Q hx hi hk hq
    rw [run_loop]
    generalize hL : XCode.loop xcrc_Next_l0 = L
    have hi8 : i = 8 := by omega
    subst hi8
    simp only [xcrc_Next_l0, ofArgs, run_seq, run_block, run_ops, run_skip, run_exit, run_ret, thenQ_normal, thenQ_exit, thenQ_ret, blockQ_normal, blockQ_exit, blockQ_ret, retQ_ret, retQ_normal, ops_nil, ops_none, got_some, ops_wT, ops_wTn, ops_wF, ops_wFn, ops_wU, dops_wT, dops_wTn, dops_wF, dops_wFn, dops_wU, run_condT, run_condF, alt2_int, altB_bool, altI_int, altBB_bool, v_min, v_max, v_not, v_neg, optEv_none, optEv_some, isSome'_none, isSome'_some, pExt0, pExt1, pExt2, Bool.false_and, Bool.true_and, Bool.not_true, Bool.not_false, cond_true, cond_false, dops_nil, dops_none, xval_call, v_mov, v_bin, v_len, v_ext, v_idxA, v_ld, v_st, v_app, v_appN, v_cvs, v_bs1, pBs1, v_slc, v_conv, v_fld, v_fldA, v_new, v_box, v_mks, v_copy, v_isnil, v_nilck, v_pick, ev, evs_nil, evs_cons, fr_get_cons, fr_put_nil, fr_put_cons, fr_put_some, fr_put_none, fr_keep_nil, fr_keep_cons, fr_has_nil, fr_has_cons, Option.bind_some, Option.map_some, xbin, ibin, xresult_eq, xress_nil, xress_tmp, resV, ex_some, if_true, if_false, ite_true, ite_false, reduceIte, reduceCtorEq, Nat.reduceEqDiff, Nat.reduceLT, Nat.reduceLeDiff, Int.reduceLT, Int.reduceLE, Nat.zero_add, Nat.reduceAdd, Bool.false_eq_true, decide_eq_true_eq, decide_eq_false_iff_not, true_implies, false_implies, and_true, true_and, Int.lt_irrefl, decide_false]
    simpa [crcRounds] using hq
  | succ k ih =>
    intro x i H Q hx hi hk hq
    rw [run_loop]
    generalize hL : XCode.loop xcrc_Next_l0 = L
    have hlt : i < 8 := by omega
    have e4 := wrI (i + 1) (by omega) (by omega)
    have s1 : min (Int.toNat 1) IntKind.i64.bits = 1 := rfl
    have e5 := wrI ((x : Int) * 2 ^ 1) (by omega) (by omega)
    by_cases h : (x : Int) * 2 ^ 1 > 65535
    · have e6 := w_xor ((x : Int) * 2 ^ 1) 69665 (by omega) (by omega) (by omega) (by omega)
      simp only [xcrc_Next_l0, ofArgs, run_seq, run_block, run_ops, run_skip, run_exit, run_ret, thenQ_normal, thenQ_exit, thenQ_ret, blockQ_normal, blockQ_exit, blockQ_ret, retQ_ret, retQ_normal, ops_nil, ops_none, got_some, ops_wT, ops_wTn, ops_wF, ops_wFn, ops_wU, dops_wT, dops_wTn, dops_wF, dops_wFn, dops_wU, run_condT, run_condF, alt2_int, altB_bool, altI_int, altBB_bool, v_min, v_max, v_not, v_neg, optEv_none, optEv_some, isSome'_none, isSome'_some, pExt0, pExt1, pExt2, Bool.false_and, Bool.true_and, Bool.not_true, Bool.not_false, cond_true, cond_false, dops_nil, dops_none, xval_call, v_mov, v_bin, v_len, v_ext, v_idxA, v_ld, v_st, v_app, v_appN, v_cvs, v_bs1, pBs1, v_slc, v_conv, v_fld, v_fldA, v_new, v_box, v_mks, v_copy, v_isnil, v_nilck, v_pick, ev, evs_nil, evs_cons, fr_get_cons, fr_put_nil, fr_put_cons, fr_put_some, fr_put_none, fr_keep_nil, fr_keep_cons, fr_has_nil, fr_has_cons, Option.bind_some, Option.map_some, xbin, ibin, xresult_eq, xress_nil, xress_tmp, resV, ex_some, if_true, if_false, ite_true, ite_false, reduceIte, reduceCtorEq, Nat.reduceEqDiff, Nat.reduceLT, Nat.reduceLeDiff, Int.reduceLT, Int.reduceLE, Nat.zero_add, Nat.reduceAdd, Bool.false_eq_true, decide_eq_true_eq, decide_eq_false_iff_not, true_implies, false_implies, and_true, true_and, hlt, decide_true, e4, s1, e5, h, e6]
      subst hL
      have hst : (((x : Int) * 2 ^ 1).toNat ^^^ Int.toNat 69665) = crcStep x := by
        unfold crcStep
        rw [if_pos (by omega)]
        congr 1
      rw [hst]
      exact ih (crcStep x) (i + 1) H Q (crcStep_lt x hx) (by omega) (by omega) hq
    · simp only [xcrc_Next_l0, ofArgs, run_seq, run_block, run_ops, run_skip, run_exit, run_ret, thenQ_normal, thenQ_exit, thenQ_ret, blockQ_normal, blockQ_exit, blockQ_ret, retQ_ret, retQ_normal, ops_nil, ops_none, got_some, ops_wT, ops_wTn, ops_wF, ops_wFn, ops_wU, dops_wT, dops_wTn, dops_wF, dops_wFn, dops_wU, run_condT, run_condF, alt2_int, altB_bool, altI_int, altBB_bool, v_min, v_max, v_not, v_neg, optEv_none, optEv_some, isSome'_none, isSome'_some, pExt0, pExt1, pExt2, Bool.false_and, Bool.true_and, Bool.not_true, Bool.not_false, cond_true, cond_false, dops_nil, dops_none, xval_call, v_mov, v_bin, v_len, v_ext, v_idxA, v_ld, v_st, v_app, v_appN, v_cvs, v_bs1, pBs1, v_slc, v_conv, v_fld, v_fldA, v_new, v_box, v_mks, v_copy, v_isnil, v_nilck, v_pick, ev, evs_nil, evs_cons, fr_get_cons, fr_put_nil, fr_put_cons, fr_put_some, fr_put_none, fr_keep_nil, fr_keep_cons, fr_has_nil, fr_has_cons, Option.bind_some, Option.map_some, xbin, ibin, xresult_eq, xress_nil, xress_tmp, resV, ex_some, if_true, if_false, ite_true, ite_false, reduceIte, reduceCtorEq, Nat.reduceEqDiff, Nat.reduceLT, Nat.reduceLeDiff, Int.reduceLT, Int.reduceLE, Nat.zero_add, Nat.reduceAdd, Bool.false_eq_true, decide_eq_true_eq, decide_eq_false_iff_not, true_implies, false_implies, and_true, true_and, hlt, decide_true, e4, s1, e5, h, decide_false]
      subst hL
      have hst : (x : Int) * 2 ^ 1 = ((crcStep x : Nat) : Int) := by
        unfold crcStep
        rw [if_neg (by omega)]
        omega
      rw [hst]
      exact ih (crcStep x) (i + 1) H Q (crcStep_lt x hx) (by omega) (by omega) hq

theorem nx_lt0 (s c : Nat) (hc : c < 256) : (s &&& 65535) ^^^ (c * 256) < 65536 :=
  Nat.xor_lt_two_pow (n := 16) (Nat.lt_of_le_of_lt Nat.and_le_right (by omega)) (by omega)
theorem rounds_lt (k : Nat) : ∀ x, x < 65536 → crcRounds k x < 65536 := by
  induction k with
  | zero => intro x h; exact h
  | succ k ih => intro x h; exact ih _ (crcStep_lt x h)
theorem nx_lt (s c : Nat) (hc : c < 256) : nx s c < 65536 := rounds_lt 8 _ (nx_lt0 s c hc)

theorem crcNext_xc (s c : Nat) (H : AH) (hs : s < 1000000000) (hc : c < 256) : xc Try.prog tab 17 [.int .i64 (s : Nat), .int .u8 (c : Nat)] H = some (.int .i64 (nx s c : Nat), H) := by
  refine got_xc (got_call (res := [.tmp 4]) rfl ?_)
  have s8 : min (Int.toNat 8) IntKind.i64.bits = 8 := rfl
  have e1 := w_and (s : Int) 65535 (by omega) (by omega) (by omega) (by omega)
  have e2 := wrI (c : Int) (by omega) (by omega)
  have e3 := wrI ((c : Int) * 2 ^ 8) (by omega) (by omega)
  have ha : s &&& 65535 ≤ 65535 := Nat.and_le_right
  have e4 := w_xor (((s : Int).toNat &&& Int.toNat 65535 : Nat) : Int) ((c : Int) * 2 ^ 8) (by omega) (by simp; omega) (by omega) (by omega)
  simp only [ofArgs, run_seq, run_block, run_ops, run_skip, run_exit, run_ret, thenQ_normal, thenQ_exit, thenQ_ret, blockQ_normal, blockQ_exit, blockQ_ret, retQ_ret, retQ_normal, ops_nil, ops_none, got_some, ops_wT, ops_wTn, ops_wF, ops_wFn, ops_wU, dops_wT, dops_wTn, dops_wF, dops_wFn, dops_wU, run_condT, run_condF, alt2_int, altB_bool, altI_int, altBB_bool, v_min, v_max, v_not, v_neg, optEv_none, optEv_some, isSome'_none, isSome'_some, pExt0, pExt1, pExt2, Bool.false_and, Bool.true_and, Bool.not_true, Bool.not_false, cond_true, cond_false, dops_nil, dops_none, xval_call, v_mov, v_bin, v_len, v_ext, v_idxA, v_ld, v_st, v_app, v_appN, v_cvs, v_bs1, pBs1, v_slc, v_conv, v_fld, v_fldA, v_new, v_box, v_mks, v_copy, v_isnil, v_nilck, v_pick, ev, evs_nil, evs_cons, fr_get_cons, fr_put_nil, fr_put_cons, fr_put_some, fr_put_none, fr_keep_nil, fr_keep_cons, fr_has_nil, fr_has_cons, Option.bind_some, Option.map_some, xbin, ibin, xresult_eq, xress_nil, xress_tmp, resV, ex_some, if_true, if_false, ite_true, ite_false, reduceIte, reduceCtorEq, Nat.reduceEqDiff, Nat.reduceLT, Nat.reduceLeDiff, Int.reduceLT, Int.reduceLE, Nat.zero_add, Nat.reduceAdd, Bool.false_eq_true, decide_eq_true_eq, decide_eq_false_iff_not, true_implies, false_implies, and_true, true_and, pConv, e1, e2, e3, s8, e4]
  have hst : ((((s : Int).toNat &&& Int.toNat 65535 : Nat) : Int).toNat ^^^ ((c : Int) * 2 ^ 8).toNat) = (s &&& 65535) ^^^ (c * 256) := by
    have h1 : ((c : Int) * 2 ^ 8).toNat = c * 256 := by omega
    rw [h1]; rfl
  rw [hst]
  refine next_l0 8 _ 0 H _ (nx_lt0 s c hc) (by omega) (by omega) ?_
  simp only [ofArgs, run_seq, run_block, run_ops, run_skip, run_exit, run_ret, thenQ_normal, thenQ_exit, thenQ_ret, blockQ_normal, blockQ_exit, blockQ_ret, retQ_ret, retQ_normal, ops_nil, ops_none, got_some, ops_wT, ops_wTn, ops_wF, ops_wFn, ops_wU, dops_wT, dops_wTn, dops_wF, dops_wFn, dops_wU, run_condT, run_condF, alt2_int, altB_bool, altI_int, altBB_bool, v_min, v_max, v_not, v_neg, optEv_none, optEv_some, isSome'_none, isSome'_some, pExt0, pExt1, pExt2, Bool.false_and, Bool.true_and, Bool.not_true, Bool.not_false, cond_true, cond_false, dops_nil, dops_none, xval_call, v_mov, v_bin, v_len, v_ext, v_idxA, v_ld, v_st, v_app, v_appN, v_cvs, v_bs1, pBs1, v_slc, v_conv, v_fld, v_fldA, v_new, v_box, v_mks, v_copy, v_isnil, v_nilck, v_pick, ev, evs_nil, evs_cons, fr_get_cons, fr_put_nil, fr_put_cons, fr_put_some, fr_put_none, fr_keep_nil, fr_keep_cons, fr_has_nil, fr_has_cons, Option.bind_some, Option.map_some, xbin, ibin, xresult_eq, xress_nil, xress_tmp, resV, ex_some, if_true, if_false, ite_true, ite_false, reduceIte, reduceCtorEq, Nat.reduceEqDiff, Nat.reduceLT, Nat.reduceLeDiff, Int.reduceLT, Int.reduceLE, Nat.zero_add, Nat.reduceAdd, Bool.false_eq_true, decide_eq_true_eq, decide_eq_false_iff_not, true_implies, false_implies, and_true, true_and]
  rfl
end Go.Proofs.Ytkhjmmidaihbhaa.D
