/- What functions that the law reaches compute, on a heap of the run's own: the conditions stand in each theorem. -/
import Derived.Test.YtkhjmmidaihbhaaMfC
set_option linter.unusedSimpArgs false
set_option linter.unusedVariables false
namespace Go.Proofs.Ytkhjmmidaihbhaa.D
open Go Go.Det

/-- the bit ahead of bit k of a byte -/
def lastAt (c : Nat) (last0 : Bool) (k : Nat) : Bool := if k = 0 then last0 else c.testBit (8 - k)

set_option maxHeartbeats 8000000 in
/-- the eight bits of a byte are read -/
theorem rp_l0 (vd vc vo : Value) (dl cl : List Bool) (i0 c : Nat) (hc : c < 256) (mark last0 : Bool) (H : AH) (hd : Boos H vd dl) (hcl : Boos H vc cl) (hi0 : i0 + 8 ≤ dl.length) (hi1 : i0 + 8 ≤ cl.length) (hi2 : i0 ≤ 100000)
    (h1 : ∀ k, k < 8 → dl[i0 + k]? = some (c.testBit (7 - k))) (h2 : ∀ k, k < 8 → cl[i0 + k]? = some (!(c.testBit (7 - k)) && !(lastAt c last0 k) && !(mark && decide (k = 5)))) (r : Nat) :
    ∀ (k : Nat) (i : Int) (Q : XExit → Fr → AH → Prop), k + r = 8 → i = (k : Int) →
    Q (.exit 2) [(8, vd), (9, vc), (10, vo), (11, .bool (c.testBit 0)), (12, .int .i64 (i0 : Nat)), (13, .int .i64 (c : Nat)), (14, .bool mark), (65, .int .i64 8), (66, .bool false)] H →
    Run Try.prog tab (.loop xmfm_ReadParts_l0) [(8, vd), (9, vc), (10, vo), (11, .bool (lastAt c last0 k)), (12, .int .i64 (i0 : Nat)), (13, .int .i64 ((c >>> (8 - k) : Nat) : Int)), (14, .bool mark), (65, .int .i64 i)] H Q := by
  induction r with
  | zero =>
    intro k i Q hk hi hq
    rw [run_loop]
    generalize hL : XCode.loop xmfm_ReadParts_l0 = LL
    obtain rfl : k = 8 := by omega
    obtain rfl : i = 8 := by omega
    have e1 : lastAt c last0 8 = c.testBit 0 := rfl
    simp only [xmfm_ReadParts_l0, ofArgs, run_seq, run_block, run_ops, run_skip, run_exit, run_ret, thenQ_normal, thenQ_exit, thenQ_ret, blockQ_normal, blockQ_exit, blockQ_ret, retQ_ret, retQ_normal, ops_nil, ops_none, got_some, ops_wT, ops_wTn, ops_wF, ops_wFn, ops_wU, dops_wT, dops_wTn, dops_wF, dops_wFn, dops_wU, run_condT, run_condF, alt2_int, altB_bool, altI_int, altBB_bool, v_min, v_max, v_not, v_neg, optEv_none, optEv_some, isSome'_none, isSome'_some, pExt0, pExt1, pExt2, Bool.false_and, Bool.true_and, Bool.not_true, Bool.not_false, cond_true, cond_false, dops_nil, dops_none, xval_call, v_mov, v_bin, v_len, v_ext, v_idxA, v_ld, v_st, v_app, v_appN, v_cvs, v_bs1, pBs1, v_slc, v_conv, v_fld, v_fldA, v_new, v_box, v_mks, v_copy, v_isnil, v_nilck, v_pick, ev, evs_nil, evs_cons, fr_get_cons, fr_put_nil, fr_put_cons, fr_put_some, fr_put_none, fr_keep_nil, fr_keep_cons, fr_has_nil, fr_has_cons, Option.bind_some, Option.map_some, xbin, ibin, xresult_eq, xress_nil, xress_tmp, resV, ex_some, if_true, if_false, ite_true, ite_false, reduceIte, reduceCtorEq, Nat.reduceEqDiff, Nat.reduceLT, Nat.reduceLeDiff, Int.reduceLT, Int.reduceLE, Nat.zero_add, Nat.reduceAdd, Bool.false_eq_true, decide_eq_true_eq, decide_eq_false_iff_not, true_implies, false_implies, and_true, true_and, Int.lt_irrefl, decide_false, e1, Nat.sub_self, Nat.shiftRight_zero]
    exact hq
  | succ r ih =>
    intro k i Q hk hi hq
    have ih' := ih (k + 1) (i + 1) Q (by omega) (by omega) hq
    rw [run_loop]
    generalize hL : XCode.loop xmfm_ReadParts_l0 = LL
    rw [hL] at ih'
    have hlt : i < 8 := by omega
    have hk8 : k < 8 := by omega
    have w1 : IntKind.i64.wrap ((i0 : Int) + i) = ((i0 + k : Nat) : Int) := by rw [wrI _ (by omega) (by omega)]; omega
    have e1 := boos_idx hd ((i0 + k : Nat) : Int) (i0 + k) rfl (by omega)
    have e2 := boos_ld hd (i0 + k) _ (h1 k hk8)
    have e3 := boos_idx hcl ((i0 + k : Nat) : Int) (i0 + k) rfl (by omega)
    have e4 := boos_ld hcl (i0 + k) _ (h2 k hk8)
    have w4 := wrI (i + 1) (by omega) (by omega)
    have hsl : c >>> (8 - k) < 256 := by
      rw [Nat.shiftRight_eq_div_pow]; exact Nat.lt_of_le_of_lt (Nat.div_le_self _ _) hc
    have ub := fun (fr : Fr) (H : AH) => v_neb (P := Try.prog) (T := tab) (fr := fr) (H := H) Try.underlying4
    have e5 : (i == 5) = decide (k = 5) := by
      by_cases h : k = 5
      · subst h; obtain rfl : i = 5 := by omega
        rfl
      · have : ¬ i = 5 := by omega
        simp [h, this]
    have hstep := shr_step c (7 - k)
    rw [show 7 - k + 1 = 8 - k by omega] at hstep
    have hl1 : lastAt c last0 (k + 1) = c.testBit (7 - k) := by
      unfold lastAt; rw [if_neg (by omega), show 8 - (k + 1) = 7 - k by omega]
    rw [hl1, show 8 - (k + 1) = 7 - k by omega, ← hstep] at ih'
    generalize lastAt c last0 k = la at e4 
    generalize c.testBit (7 - k) = bit at e2 e4 ih'
    generalize c >>> (8 - k) = cc at hsl ih'
    have w2 := wrI ((cc : Int) * 2) (by omega) (by omega)
    have w3 := wrI ((cc : Int) * 2 + 1) (by omega) (by omega)
    generalize hx : decide (k = 5) = x at e4 e5
    cases bit <;> cases la <;> cases mark <;> cases x <;>
      (simp only [Bool.not_true, Bool.not_false, Bool.and_true, Bool.and_false, Bool.true_and, Bool.false_and] at e4
       simp only [xmfm_ReadParts_l0, ofArgs, run_seq, run_block, run_ops, run_skip, run_exit, run_ret, thenQ_normal, thenQ_exit, thenQ_ret, blockQ_normal, blockQ_exit, blockQ_ret, retQ_ret, retQ_normal, ops_nil, ops_none, got_some, ops_wT, ops_wTn, ops_wF, ops_wFn, ops_wU, dops_wT, dops_wTn, dops_wF, dops_wFn, dops_wU, run_condT, run_condF, alt2_int, altB_bool, altI_int, altBB_bool, v_min, v_max, v_not, v_neg, optEv_none, optEv_some, isSome'_none, isSome'_some, pExt0, pExt1, pExt2, Bool.false_and, Bool.true_and, Bool.not_true, Bool.not_false, cond_true, cond_false, dops_nil, dops_none, xval_call, v_mov, v_bin, v_len, v_ext, v_idxA, v_ld, v_st, v_app, v_appN, v_cvs, v_bs1, pBs1, v_slc, v_conv, v_fld, v_fldA, v_new, v_box, v_mks, v_copy, v_isnil, v_nilck, v_pick, ev, evs_nil, evs_cons, fr_get_cons, fr_put_nil, fr_put_cons, fr_put_some, fr_put_none, fr_keep_nil, fr_keep_cons, fr_has_nil, fr_has_cons, Option.bind_some, Option.map_some, xbin, ibin, xresult_eq, xress_nil, xress_tmp, resV, ex_some, if_true, if_false, ite_true, ite_false, reduceIte, reduceCtorEq, Nat.reduceEqDiff, Nat.reduceLT, Nat.reduceLeDiff, Int.reduceLT, Int.reduceLE, Nat.zero_add, Nat.reduceAdd, Bool.false_eq_true, decide_eq_true_eq, decide_eq_false_iff_not, true_implies, false_implies, and_true, true_and, hlt, decide_true, w1, e1, e2, e3, e4, e5, ub, w2, w3, w4, beq_self_eq_true]
       have hcc : ((2 * cc : Nat) : Int) = (cc : Int) * 2 := by omega
       have hcc1 : ((2 * cc + 1 : Nat) : Int) = (cc : Int) * 2 + 1 := by omega
       simp only [Bool.toNat_false, Bool.toNat_true, Nat.add_zero, hcc, hcc1] at ih'
       exact ih')
end Go.Proofs.Ytkhjmmidaihbhaa.D
