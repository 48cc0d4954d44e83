/- What functions that the law reaches compute, on a heap of the run's own: the conditions stand in each theorem. -/
import Derived.Test.YtkhjmmidaihbhaaFxShake
set_option linter.unusedSimpArgs false
set_option linter.unusedVariables false
namespace Go.Proofs.Ytkhjmmidaihbhaa.D
open Go Go.Det

theorem moves_l0 (n0 : Nat) (s t : Value) (most : Int) (rest : List Int) : ∀ (pre acc : List Int) (v : Value) (H : AH) (i N : Int) (Q : XExit → Fr → AH → Prop), Ints H s (pre ++ rest) → (∀ b, inB s b → b < n0) → OwnI n0 H v acc → n0 ≤ H.n →
    pre.length + rest.length ≤ 17592186044416 → acc.length ≤ pre.length → i = (pre.length : Int) → N = ((pre ++ rest).length : Int) →
    (∀ v' H', OwnI n0 H' v' (acc ++ rest.map fun x => x % 9 - 4) → Keep n0 H H' → Q (.exit 0) [(2, .int .i64 most), (7, t), (8, v'), (19, s), (20, .int .i64 N), (21, .int .i64 N), (22, .bool false)] H') →
    Run Try.prog tab (.loop xbakekeep2_FluxShakes_l0) [(2, .int .i64 most), (7, t), (8, v), (19, s), (20, .int .i64 N), (21, .int .i64 i)] H Q := by
  induction rest with
  | nil =>
    intro pre acc v H i N Q hs hsb ho hn hl hal hi hN hq
    rw [run_loop]
    generalize hL : XCode.loop xbakekeep2_FluxShakes_l0 = L
    have hiN : i = N := by simp at hN; omega
    subst hiN
    have hf : ¬ i < i := by omega
    simp only [xbakekeep2_FluxShakes_l0, ofArgs, run_seq, run_block, run_ops, run_skip, run_exit, run_ret, thenQ_normal, thenQ_exit, thenQ_ret, blockQ_normal, blockQ_exit, blockQ_ret, retQ_ret, retQ_normal, ops_nil, ops_none, got_some, ops_wT, ops_wTn, ops_wF, ops_wFn, ops_wU, dops_wT, dops_wTn, dops_wF, dops_wFn, dops_wU, run_condT, run_condF, alt2_int, altB_bool, altI_int, altBB_bool, v_min, v_max, v_not, v_neg, optEv_none, optEv_some, isSome'_none, isSome'_some, pExt0, pExt1, pExt2, Bool.false_and, Bool.true_and, Bool.not_true, Bool.not_false, cond_true, cond_false, dops_nil, dops_none, xval_call, v_mov, v_bin, v_len, v_ext, v_idxA, v_ld, v_st, v_app, v_bs1, pBs1, v_slc, v_conv, v_fld, v_fldA, v_new, v_box, v_build, v_mks, v_copy, v_isnil, v_nilck, v_pick, ev, evs_nil, evs_cons, fr_get_cons, fr_put_nil, fr_put_cons, fr_put_some, fr_put_none, fr_keep_nil, fr_keep_cons, fr_has_nil, fr_has_cons, Option.bind_some, Option.map_some, xbin, ibin, xresult_eq, xress_nil, xress_tmp, resV, ex_some, if_true, if_false, ite_true, ite_false, reduceIte, reduceCtorEq, Nat.reduceEqDiff, Nat.reduceLT, Nat.reduceLeDiff, Nat.zero_add, Nat.reduceAdd, Bool.false_eq_true, decide_eq_true_eq, decide_eq_false_iff_not, true_implies, false_implies, and_true, true_and, hf, decide_false]
    have := hq v H (by simpa using ho) (.refl _ _)
    simpa using this
  | cons a rest ih =>
    intro pre acc v H i N Q hs hsb ho hn hl hal hi hN hq
    simp only [List.length_cons] at hl
    rw [run_loop]
    generalize hL : XCode.loop xbakekeep2_FluxShakes_l0 = L
    have hlt : i < N := by simp at hN; omega
    have h0 : (0 : Int) ≤ a % 9 := Int.emod_nonneg _ (by omega)
    have h3 : a % 9 < 9 := Int.emod_lt_of_pos _ (by omega)
    have e1 := ints_idx hs i pre.length hi (by simp)
    have e2 := ints_ld hs pre.length a (by simp)
    have e3 := wrI (a % 9 - 4) (by omega) (by omega)
    have e4 := wrI (i + 1) (by omega) (by omega)
    have b9 := below_xc a 9 H (by omega) (by omega)
    simp only [xbakekeep2_FluxShakes_l0, ofArgs, run_seq, run_block, run_ops, run_skip, run_exit, run_ret, thenQ_normal, thenQ_exit, thenQ_ret, blockQ_normal, blockQ_exit, blockQ_ret, retQ_ret, retQ_normal, ops_nil, ops_none, got_some, ops_wT, ops_wTn, ops_wF, ops_wFn, ops_wU, dops_wT, dops_wTn, dops_wF, dops_wFn, dops_wU, run_condT, run_condF, alt2_int, altB_bool, altI_int, altBB_bool, v_min, v_max, v_not, v_neg, optEv_none, optEv_some, isSome'_none, isSome'_some, pExt0, pExt1, pExt2, Bool.false_and, Bool.true_and, Bool.not_true, Bool.not_false, cond_true, cond_false, dops_nil, dops_none, xval_call, v_mov, v_bin, v_len, v_ext, v_idxA, v_ld, v_st, v_app, v_bs1, pBs1, v_slc, v_conv, v_fld, v_fldA, v_new, v_box, v_build, v_mks, v_copy, v_isnil, v_nilck, v_pick, ev, evs_nil, evs_cons, fr_get_cons, fr_put_nil, fr_put_cons, fr_put_some, fr_put_none, fr_keep_nil, fr_keep_cons, fr_has_nil, fr_has_cons, Option.bind_some, Option.map_some, xbin, ibin, xresult_eq, xress_nil, xress_tmp, resV, ex_some, if_true, if_false, ite_true, ite_false, reduceIte, reduceCtorEq, Nat.reduceEqDiff, Nat.reduceLT, Nat.reduceLeDiff, Nat.zero_add, Nat.reduceAdd, Bool.false_eq_true, decide_eq_true_eq, decide_eq_false_iff_not, true_implies, false_implies, and_true, true_and, hlt, decide_true, e1, e2, e3, e4, b9]
    refine app_one ho hn (by omega) fun v' H' ho' hs' => ?_
    have hk := hs'.keep ho hn
    subst hL
    refine ih (pre ++ [a]) (acc ++ [a % 9 - 4]) v' H' (i + 1) N Q (Ints.app1 (Ints.keep hs hk hsb)) hsb ho' (by have := hk.1; omega) (by simp; omega) (by simp; omega) (by simp; omega) (by simpa using hN) ?_
    intro v2 H2 ho2 hk2
    exact hq v2 H2 (by simpa using ho2) (hk.trans hk2)

theorem moved_l1 (l : List Int) (t u w : Value) (most : Int) (h0 : 0 ≤ most) (h3 : most ≤ 1000) (hll : l.length ≤ 4611686018427387904) (H : AH) (hu : Ints H u l) (n : Nat) : ∀ (k : Nat) (b : Bool) (i N : Int) (Q : XExit → Fr → AH → Prop), (k + n ≤ 40000) → i = (k : Int) → N = ((k + n : Nat) : Int) →
    Q (.exit 2) [(2, .int .i64 most), (7, t), (8, u), (11, w), (13, .bool (b || anyM l most k n)), (60, .int .i64 N), (61, .int .i64 N), (62, .bool false)] H →
    Run Try.prog tab (.loop xbakekeep2_FluxShakes_l1) [(2, .int .i64 most), (7, t), (8, u), (11, w), (13, .bool b), (60, .int .i64 N), (61, .int .i64 i)] H Q := by
  induction n with
  | zero =>
    intro k b i N Q hl hi hN hq
    rw [run_loop]
    generalize hL : XCode.loop xbakekeep2_FluxShakes_l1 = L
    have hiN : i = N := by omega
    subst hiN
    have hf : ¬ i < i := by omega
    simp only [xbakekeep2_FluxShakes_l1, ofArgs, run_seq, run_block, run_ops, run_skip, run_exit, run_ret, thenQ_normal, thenQ_exit, thenQ_ret, blockQ_normal, blockQ_exit, blockQ_ret, retQ_ret, retQ_normal, ops_nil, ops_none, got_some, ops_wT, ops_wTn, ops_wF, ops_wFn, ops_wU, dops_wT, dops_wTn, dops_wF, dops_wFn, dops_wU, run_condT, run_condF, alt2_int, altB_bool, altI_int, altBB_bool, v_min, v_max, v_not, v_neg, optEv_none, optEv_some, isSome'_none, isSome'_some, pExt0, pExt1, pExt2, Bool.false_and, Bool.true_and, Bool.not_true, Bool.not_false, cond_true, cond_false, dops_nil, dops_none, xval_call, v_mov, v_bin, v_len, v_ext, v_idxA, v_ld, v_st, v_app, v_bs1, pBs1, v_slc, v_conv, v_fld, v_fldA, v_new, v_box, v_build, v_mks, v_copy, v_isnil, v_nilck, v_pick, ev, evs_nil, evs_cons, fr_get_cons, fr_put_nil, fr_put_cons, fr_put_some, fr_put_none, fr_keep_nil, fr_keep_cons, fr_has_nil, fr_has_cons, Option.bind_some, Option.map_some, xbin, ibin, xresult_eq, xress_nil, xress_tmp, resV, ex_some, if_true, if_false, ite_true, ite_false, reduceIte, reduceCtorEq, Nat.reduceEqDiff, Nat.reduceLT, Nat.reduceLeDiff, Nat.zero_add, Nat.reduceAdd, Bool.false_eq_true, decide_eq_true_eq, decide_eq_false_iff_not, true_implies, false_implies, and_true, true_and, hf, decide_false]
    simpa [anyM] using hq
  | succ n ih =>
    intro k b i N Q hl hi hN hq
    rw [run_loop]
    generalize hL : XCode.loop xbakekeep2_FluxShakes_l1 = L
    have hlt : i < N := by omega
    have n1 := ints_len hu
    have e4 := wrI (i + 1) (by omega) (by omega)
    have eN : N = ((k + 1 + n : Nat) : Int) := by omega
    cases b with
    | true =>
      simp only [xbakekeep2_FluxShakes_l1, ofArgs, run_seq, run_block, run_ops, run_skip, run_exit, run_ret, thenQ_normal, thenQ_exit, thenQ_ret, blockQ_normal, blockQ_exit, blockQ_ret, retQ_ret, retQ_normal, ops_nil, ops_none, got_some, ops_wT, ops_wTn, ops_wF, ops_wFn, ops_wU, dops_wT, dops_wTn, dops_wF, dops_wFn, dops_wU, run_condT, run_condF, alt2_int, altB_bool, altI_int, altBB_bool, v_min, v_max, v_not, v_neg, optEv_none, optEv_some, isSome'_none, isSome'_some, pExt0, pExt1, pExt2, Bool.false_and, Bool.true_and, Bool.not_true, Bool.not_false, cond_true, cond_false, dops_nil, dops_none, xval_call, v_mov, v_bin, v_len, v_ext, v_idxA, v_ld, v_st, v_app, v_bs1, pBs1, v_slc, v_conv, v_fld, v_fldA, v_new, v_box, v_build, v_mks, v_copy, v_isnil, v_nilck, v_pick, ev, evs_nil, evs_cons, fr_get_cons, fr_put_nil, fr_put_cons, fr_put_some, fr_put_none, fr_keep_nil, fr_keep_cons, fr_has_nil, fr_has_cons, Option.bind_some, Option.map_some, xbin, ibin, xresult_eq, xress_nil, xress_tmp, resV, ex_some, if_true, if_false, ite_true, ite_false, reduceIte, reduceCtorEq, Nat.reduceEqDiff, Nat.reduceLT, Nat.reduceLeDiff, Nat.zero_add, Nat.reduceAdd, Bool.false_eq_true, decide_eq_true_eq, decide_eq_false_iff_not, true_implies, false_implies, and_true, true_and, hlt, decide_true, e4]
      subst hL
      exact ih (k + 1) true (i + 1) N Q (by omega) (by omega) eN (by simpa using hq)
    | false =>
      by_cases hl0 : l.length = 0
      · have c1 : ¬ (l.length : Int) > 0 := by omega
        simp only [xbakekeep2_FluxShakes_l1, ofArgs, run_seq, run_block, run_ops, run_skip, run_exit, run_ret, thenQ_normal, thenQ_exit, thenQ_ret, blockQ_normal, blockQ_exit, blockQ_ret, retQ_ret, retQ_normal, ops_nil, ops_none, got_some, ops_wT, ops_wTn, ops_wF, ops_wFn, ops_wU, dops_wT, dops_wTn, dops_wF, dops_wFn, dops_wU, run_condT, run_condF, alt2_int, altB_bool, altI_int, altBB_bool, v_min, v_max, v_not, v_neg, optEv_none, optEv_some, isSome'_none, isSome'_some, pExt0, pExt1, pExt2, Bool.false_and, Bool.true_and, Bool.not_true, Bool.not_false, cond_true, cond_false, dops_nil, dops_none, xval_call, v_mov, v_bin, v_len, v_ext, v_idxA, v_ld, v_st, v_app, v_bs1, pBs1, v_slc, v_conv, v_fld, v_fldA, v_new, v_box, v_build, v_mks, v_copy, v_isnil, v_nilck, v_pick, ev, evs_nil, evs_cons, fr_get_cons, fr_put_nil, fr_put_cons, fr_put_some, fr_put_none, fr_keep_nil, fr_keep_cons, fr_has_nil, fr_has_cons, Option.bind_some, Option.map_some, xbin, ibin, xresult_eq, xress_nil, xress_tmp, resV, ex_some, if_true, if_false, ite_true, ite_false, reduceIte, reduceCtorEq, Nat.reduceEqDiff, Nat.reduceLT, Nat.reduceLeDiff, Nat.zero_add, Nat.reduceAdd, Bool.false_eq_true, decide_eq_true_eq, decide_eq_false_iff_not, true_implies, false_implies, and_true, true_and, hlt, decide_true, n1, c1, decide_false, e4]
        subst hL
        have em : mvAt l most k = 0 := by simp [mvAt, hl0]
        exact ih (k + 1) false (i + 1) N Q (by omega) (by omega) eN (by simpa [anyM, em] using hq)
      · have c1 : (l.length : Int) > 0 := by omega
        have c2 : ¬ (l.length : Int) = 0 := by omega
        have hmod : k % l.length < l.length := Nat.mod_lt _ (by omega)
        have er : Int.tmod i (l.length : Int) = ((k % l.length : Nat) : Int) := by rw [hi, Int.ofNat_tmod]
        have e3 := ints_idx hu ((k % l.length : Nat) : Int) (k % l.length) rfl hmod
        have e5 := ints_ld hu (k % l.length) (l.getD (k % l.length) 0) (by rw [List.getD_eq_getElem?_getD, List.getElem?_eq_getElem hmod]; rfl)
        have e6 := wrI (-most) (by omega) (by omega)
        have hmv : mvAt l most k = clampI most (l.getD (k % l.length) 0) := by unfold mvAt; rw [if_neg hl0]
        simp only [xbakekeep2_FluxShakes_l1, ofArgs, run_seq, run_block, run_ops, run_skip, run_exit, run_ret, thenQ_normal, thenQ_exit, thenQ_ret, blockQ_normal, blockQ_exit, blockQ_ret, retQ_ret, retQ_normal, ops_nil, ops_none, got_some, ops_wT, ops_wTn, ops_wF, ops_wFn, ops_wU, dops_wT, dops_wTn, dops_wF, dops_wFn, dops_wU, run_condT, run_condF, alt2_int, altB_bool, altI_int, altBB_bool, v_min, v_max, v_not, v_neg, optEv_none, optEv_some, isSome'_none, isSome'_some, pExt0, pExt1, pExt2, Bool.false_and, Bool.true_and, Bool.not_true, Bool.not_false, cond_true, cond_false, dops_nil, dops_none, xval_call, v_mov, v_bin, v_len, v_ext, v_idxA, v_ld, v_st, v_app, v_bs1, pBs1, v_slc, v_conv, v_fld, v_fldA, v_new, v_box, v_build, v_mks, v_copy, v_isnil, v_nilck, v_pick, ev, evs_nil, evs_cons, fr_get_cons, fr_put_nil, fr_put_cons, fr_put_some, fr_put_none, fr_keep_nil, fr_keep_cons, fr_has_nil, fr_has_cons, Option.bind_some, Option.map_some, xbin, ibin, xresult_eq, xress_nil, xress_tmp, resV, ex_some, if_true, if_false, ite_true, ite_false, reduceIte, reduceCtorEq, Nat.reduceEqDiff, Nat.reduceLT, Nat.reduceLeDiff, Nat.zero_add, Nat.reduceAdd, Bool.false_eq_true, decide_eq_true_eq, decide_eq_false_iff_not, true_implies, false_implies, and_true, true_and, hlt, decide_true, n1, c1, c2, er, e3, e5, e6, e4]
        subst hL
        refine ih (k + 1) _ (i + 1) N Q (by omega) (by omega) eN ?_
        have eb : (clampI most (l.getD (k % l.length) 0) != 0 || anyM l most (k + 1) n) = (false || anyM l most k (n + 1)) := by simp [anyM, hmv]
        rw [← eb] at hq
        exact hq

set_option maxHeartbeats 4000000 in
theorem FluxShakes_ok (l by_ : List Int) (most0 : Int) (s1 s2 : Value) (H : AH) (hs : Ints H s1 l) (hs2 : Ints H s2 by_) (hby : by_.length ≤ 17592186044416) :
    Got (xc Try.prog tab 6 [s1, s2, .int .i64 most0] H) fun v H' => v = .bool true := by
  refine got_call (res := [.tmp 6]) rfl ?_
  have hl := trk_len l
  have h8 := trk_ok l
  have hok : Ok (trk l) := fun p hp => by have := h8 p hp; omega
  have h0 : (0 : Int) ≤ most0 % 4 := Int.emod_nonneg _ (by omega)
  have h1 : most0 % 4 < 4 := Int.emod_lt_of_pos _ (by omega)
  generalize hm : most0 % 4 = most at h0 h1
  have b4 := fun H => below_xc most0 4 H (by omega) (by omega)
  rw [hm] at b4
  simp only [ofArgs, run_seq, run_block, run_ops, run_skip, run_exit, run_ret, thenQ_normal, thenQ_exit, thenQ_ret, blockQ_normal, blockQ_exit, blockQ_ret, retQ_ret, retQ_normal, ops_nil, ops_none, got_some, ops_wT, ops_wTn, ops_wF, ops_wFn, ops_wU, dops_wT, dops_wTn, dops_wF, dops_wFn, dops_wU, run_condT, run_condF, alt2_int, altB_bool, altI_int, altBB_bool, v_min, v_max, v_not, v_neg, optEv_none, optEv_some, isSome'_none, isSome'_some, pExt0, pExt1, pExt2, Bool.false_and, Bool.true_and, Bool.not_true, Bool.not_false, cond_true, cond_false, dops_nil, dops_none, xval_call, v_mov, v_bin, v_len, v_ext, v_idxA, v_ld, v_st, v_app, v_bs1, pBs1, v_slc, v_conv, v_fld, v_fldA, v_new, v_box, v_build, v_mks, v_copy, v_isnil, v_nilck, v_pick, ev, evs_nil, evs_cons, fr_get_cons, fr_put_nil, fr_put_cons, fr_put_some, fr_put_none, fr_keep_nil, fr_keep_cons, fr_has_nil, fr_has_cons, Option.bind_some, Option.map_some, xbin, ibin, xresult_eq, xress_nil, xress_tmp, resV, ex_some, if_true, if_false, ite_true, ite_false, reduceIte, reduceCtorEq, Nat.reduceEqDiff, Nat.reduceLT, Nat.reduceLeDiff, Nat.zero_add, Nat.reduceAdd, Bool.false_eq_true, decide_eq_true_eq, decide_eq_false_iff_not, true_implies, false_implies, and_true, true_and]
  refine track_ok l s1 H _ hs ?_
  intro vt H1 ot x1
  have i2 := hext_ints x1 hs2
  have n2 := ints_len i2
  simp only [ofArgs, run_seq, run_block, run_ops, run_skip, run_exit, run_ret, thenQ_normal, thenQ_exit, thenQ_ret, blockQ_normal, blockQ_exit, blockQ_ret, retQ_ret, retQ_normal, ops_nil, ops_none, got_some, ops_wT, ops_wTn, ops_wF, ops_wFn, ops_wU, dops_wT, dops_wTn, dops_wF, dops_wFn, dops_wU, run_condT, run_condF, alt2_int, altB_bool, altI_int, altBB_bool, v_min, v_max, v_not, v_neg, optEv_none, optEv_some, isSome'_none, isSome'_some, pExt0, pExt1, pExt2, Bool.false_and, Bool.true_and, Bool.not_true, Bool.not_false, cond_true, cond_false, dops_nil, dops_none, xval_call, v_mov, v_bin, v_len, v_ext, v_idxA, v_ld, v_st, v_app, v_bs1, pBs1, v_slc, v_conv, v_fld, v_fldA, v_new, v_box, v_build, v_mks, v_copy, v_isnil, v_nilck, v_pick, ev, evs_nil, evs_cons, fr_get_cons, fr_put_nil, fr_put_cons, fr_put_some, fr_put_none, fr_keep_nil, fr_keep_cons, fr_has_nil, fr_has_cons, Option.bind_some, Option.map_some, xbin, ibin, xresult_eq, xress_nil, xress_tmp, resV, ex_some, if_true, if_false, ite_true, ite_false, reduceIte, reduceCtorEq, Nat.reduceEqDiff, Nat.reduceLT, Nat.reduceLeDiff, Nat.zero_add, Nat.reduceAdd, Bool.false_eq_true, decide_eq_true_eq, decide_eq_false_iff_not, true_implies, false_implies, and_true, true_and, b4, n2]
  refine moves_l0 H1.n s2 vt most by_ [] [] _ H1 _ _ _ i2 (fun b hb => i2.lt b hb) (OwnI.nil _ _) (Nat.le_refl _) (by simpa using hby) (by simp) (by simp) (by simp) ?_
  intro vm H2 om k2
  simp only [List.nil_append] at om
  generalize hmv : (by_.map fun x => x % 9 - 4) = mvs at om
  have hml : mvs.length ≤ 17592186044416 := by rw [← hmv]; simpa using hby
  have x2 : HExt H1 H2 := k2
  have t2 := hext_ints x2 ot.ints
  simp only [ofArgs, run_seq, run_block, run_ops, run_skip, run_exit, run_ret, thenQ_normal, thenQ_exit, thenQ_ret, blockQ_normal, blockQ_exit, blockQ_ret, retQ_ret, retQ_normal, ops_nil, ops_none, got_some, ops_wT, ops_wTn, ops_wF, ops_wFn, ops_wU, dops_wT, dops_wTn, dops_wF, dops_wFn, dops_wU, run_condT, run_condF, alt2_int, altB_bool, altI_int, altBB_bool, v_min, v_max, v_not, v_neg, optEv_none, optEv_some, isSome'_none, isSome'_some, pExt0, pExt1, pExt2, Bool.false_and, Bool.true_and, Bool.not_true, Bool.not_false, cond_true, cond_false, dops_nil, dops_none, xval_call, v_mov, v_bin, v_len, v_ext, v_idxA, v_ld, v_st, v_app, v_bs1, pBs1, v_slc, v_conv, v_fld, v_fldA, v_new, v_box, v_build, v_mks, v_copy, v_isnil, v_nilck, v_pick, ev, evs_nil, evs_cons, fr_get_cons, fr_put_nil, fr_put_cons, fr_put_some, fr_put_none, fr_keep_nil, fr_keep_cons, fr_has_nil, fr_has_cons, Option.bind_some, Option.map_some, xbin, ibin, xresult_eq, xress_nil, xress_tmp, resV, ex_some, if_true, if_false, ite_true, ite_false, reduceIte, reduceCtorEq, Nat.reduceEqDiff, Nat.reduceLT, Nat.reduceLeDiff, Nat.zero_add, Nat.reduceAdd, Bool.false_eq_true, decide_eq_true_eq, decide_eq_false_iff_not, true_implies, false_implies, and_true, true_and]
  have hshk : Ok (difs 0 (shk mvs most 0 (sums 0 (trk l)))) := shk_ok mvs most h0 (by omega) (trk l) 0 0 0 (by omega) (by omega) h8
  refine shake_ok (trk l) mvs most vt vm H2 _ t2 om.ints (by omega) h0 (by omega) (by omega) hok hshk ?_
  intro vu H3 ou x3
  simp only [ofArgs, run_seq, run_block, run_ops, run_skip, run_exit, run_ret, thenQ_normal, thenQ_exit, thenQ_ret, blockQ_normal, blockQ_exit, blockQ_ret, retQ_ret, retQ_normal, ops_nil, ops_none, got_some, ops_wT, ops_wTn, ops_wF, ops_wFn, ops_wU, dops_wT, dops_wTn, dops_wF, dops_wFn, dops_wU, run_condT, run_condF, alt2_int, altB_bool, altI_int, altBB_bool, v_min, v_max, v_not, v_neg, optEv_none, optEv_some, isSome'_none, isSome'_some, pExt0, pExt1, pExt2, Bool.false_and, Bool.true_and, Bool.not_true, Bool.not_false, cond_true, cond_false, dops_nil, dops_none, xval_call, v_mov, v_bin, v_len, v_ext, v_idxA, v_ld, v_st, v_app, v_bs1, pBs1, v_slc, v_conv, v_fld, v_fldA, v_new, v_box, v_build, v_mks, v_copy, v_isnil, v_nilck, v_pick, ev, evs_nil, evs_cons, fr_get_cons, fr_put_nil, fr_put_cons, fr_put_some, fr_put_none, fr_keep_nil, fr_keep_cons, fr_has_nil, fr_has_cons, Option.bind_some, Option.map_some, xbin, ibin, xresult_eq, xress_nil, xress_tmp, resV, ex_some, if_true, if_false, ite_true, ite_false, reduceIte, reduceCtorEq, Nat.reduceEqDiff, Nat.reduceLT, Nat.reduceLeDiff, Nat.zero_add, Nat.reduceAdd, Bool.false_eq_true, decide_eq_true_eq, decide_eq_false_iff_not, true_implies, false_implies, and_true, true_and]
  refine times_ok H3 _ ?_
  intro H4 x4
  have t4 := hext_ints (x3.trans x4) t2
  have u4 := hext_ints x4 ou.ints
  have m4 := hext_ints (x3.trans x4) om.ints
  have nt := ints_len t4
  have nu := ints_len u4
  have hlen : (difs 0 (shk mvs most 0 (sums 0 (trk l)))).length = (trk l).length := by rw [difs_len, shk_len, sums_len]
  have hc : (((difs 0 (shk mvs most 0 (sums 0 (trk l)))).length : Int) != ((trk l).length : Int)) = false := by rw [hlen]; simp
  simp only [ofArgs, run_seq, run_block, run_ops, run_skip, run_exit, run_ret, thenQ_normal, thenQ_exit, thenQ_ret, blockQ_normal, blockQ_exit, blockQ_ret, retQ_ret, retQ_normal, ops_nil, ops_none, got_some, ops_wT, ops_wTn, ops_wF, ops_wFn, ops_wU, dops_wT, dops_wTn, dops_wF, dops_wFn, dops_wU, run_condT, run_condF, alt2_int, altB_bool, altI_int, altBB_bool, v_min, v_max, v_not, v_neg, optEv_none, optEv_some, isSome'_none, isSome'_some, pExt0, pExt1, pExt2, Bool.false_and, Bool.true_and, Bool.not_true, Bool.not_false, cond_true, cond_false, dops_nil, dops_none, xval_call, v_mov, v_bin, v_len, v_ext, v_idxA, v_ld, v_st, v_app, v_bs1, pBs1, v_slc, v_conv, v_fld, v_fldA, v_new, v_box, v_build, v_mks, v_copy, v_isnil, v_nilck, v_pick, ev, evs_nil, evs_cons, fr_get_cons, fr_put_nil, fr_put_cons, fr_put_some, fr_put_none, fr_keep_nil, fr_keep_cons, fr_has_nil, fr_has_cons, Option.bind_some, Option.map_some, xbin, ibin, xresult_eq, xress_nil, xress_tmp, resV, ex_some, if_true, if_false, ite_true, ite_false, reduceIte, reduceCtorEq, Nat.reduceEqDiff, Nat.reduceLT, Nat.reduceLeDiff, Nat.zero_add, Nat.reduceAdd, Bool.false_eq_true, decide_eq_true_eq, decide_eq_false_iff_not, true_implies, false_implies, and_true, true_and, nt, nu, hc, bne_self_eq_false]
  refine near_ok (trk l) _ most vt vu H4 _ t4 u4 (by omega) hlen.symm hok hshk ?_
  intro H5 x5
  have t5 := hext_ints x5 t4
  have u5 := hext_ints x5 u4
  have m5 := hext_ints x5 m4
  have nt5 := ints_len t5
  rw [sums_difs, shk_near mvs most h0]
  simp only [ofArgs, run_seq, run_block, run_ops, run_skip, run_exit, run_ret, thenQ_normal, thenQ_exit, thenQ_ret, blockQ_normal, blockQ_exit, blockQ_ret, retQ_ret, retQ_normal, ops_nil, ops_none, got_some, ops_wT, ops_wTn, ops_wF, ops_wFn, ops_wU, dops_wT, dops_wTn, dops_wF, dops_wFn, dops_wU, run_condT, run_condF, alt2_int, altB_bool, altI_int, altBB_bool, v_min, v_max, v_not, v_neg, optEv_none, optEv_some, isSome'_none, isSome'_some, pExt0, pExt1, pExt2, Bool.false_and, Bool.true_and, Bool.not_true, Bool.not_false, cond_true, cond_false, dops_nil, dops_none, xval_call, v_mov, v_bin, v_len, v_ext, v_idxA, v_ld, v_st, v_app, v_bs1, pBs1, v_slc, v_conv, v_fld, v_fldA, v_new, v_box, v_build, v_mks, v_copy, v_isnil, v_nilck, v_pick, ev, evs_nil, evs_cons, fr_get_cons, fr_put_nil, fr_put_cons, fr_put_some, fr_put_none, fr_keep_nil, fr_keep_cons, fr_has_nil, fr_has_cons, Option.bind_some, Option.map_some, xbin, ibin, xresult_eq, xress_nil, xress_tmp, resV, ex_some, if_true, if_false, ite_true, ite_false, reduceIte, reduceCtorEq, Nat.reduceEqDiff, Nat.reduceLT, Nat.reduceLeDiff, Nat.zero_add, Nat.reduceAdd, Bool.false_eq_true, decide_eq_true_eq, decide_eq_false_iff_not, true_implies, false_implies, and_true, true_and, nt5]
  refine moved_l1 mvs vt vm vu most h0 (by omega) (by omega) H5 m5 (trk l).length 0 false _ _ _ (by omega) (by simp) (by simp) ?_
  have q1 := equal_xc _ _ _ _ H5 t5 u5 (by omega) (by rw [hlen]; omega)
  have heq : decide (trk l = difs 0 (shk mvs most 0 (sums 0 (trk l)))) = !(anyM mvs most 0 (trk l).length) := by
    have h1 : trk l = difs 0 (shk mvs most 0 (sums 0 (trk l))) ↔ sums 0 (trk l) = shk mvs most 0 (sums 0 (trk l)) := by
      constructor
      · intro h
        have := congrArg (sums 0) h
        rw [sums_difs] at this
        exact this
      · intro h
        have := congrArg (difs 0) h
        rw [difs_sums] at this
        exact this
    have h2 := shk_eq mvs most (sums 0 (trk l)) 0
    rw [sums_len] at h2
    cases ha : anyM mvs most 0 (trk l).length
    · simp only [Bool.not_false, decide_eq_true_eq]
      exact h1.2 (h2.2 ha)
    · simp only [Bool.not_true, decide_eq_false_iff_not]
      intro h
      have := h2.1 (h1.1 h)
      rw [ha] at this
      simp at this
  rw [heq] at q1
  have ub := fun (fr : Fr) (H : AH) => v_eqb (P := Try.prog) (T := tab) (fr := fr) (H := H) Try.underlying4
  simp only [ofArgs, run_seq, run_block, run_ops, run_skip, run_exit, run_ret, thenQ_normal, thenQ_exit, thenQ_ret, blockQ_normal, blockQ_exit, blockQ_ret, retQ_ret, retQ_normal, ops_nil, ops_none, got_some, ops_wT, ops_wTn, ops_wF, ops_wFn, ops_wU, dops_wT, dops_wTn, dops_wF, dops_wFn, dops_wU, run_condT, run_condF, alt2_int, altB_bool, altI_int, altBB_bool, v_min, v_max, v_not, v_neg, optEv_none, optEv_some, isSome'_none, isSome'_some, pExt0, pExt1, pExt2, Bool.false_and, Bool.true_and, Bool.not_true, Bool.not_false, cond_true, cond_false, dops_nil, dops_none, xval_call, v_mov, v_bin, v_len, v_ext, v_idxA, v_ld, v_st, v_app, v_bs1, pBs1, v_slc, v_conv, v_fld, v_fldA, v_new, v_box, v_build, v_mks, v_copy, v_isnil, v_nilck, v_pick, ev, evs_nil, evs_cons, fr_get_cons, fr_put_nil, fr_put_cons, fr_put_some, fr_put_none, fr_keep_nil, fr_keep_cons, fr_has_nil, fr_has_cons, Option.bind_some, Option.map_some, xbin, ibin, xresult_eq, xress_nil, xress_tmp, resV, ex_some, if_true, if_false, ite_true, ite_false, reduceIte, reduceCtorEq, Nat.reduceEqDiff, Nat.reduceLT, Nat.reduceLeDiff, Nat.zero_add, Nat.reduceAdd, Bool.false_eq_true, decide_eq_true_eq, decide_eq_false_iff_not, true_implies, false_implies, and_true, true_and, q1, Bool.false_or, Bool.not_not, beq_self_eq_true, ub]
  refine near_ok (trk l) _ 0 vt vu H5 _ t5 u5 (by omega) hlen.symm hok hshk ?_
  intro H6 x6
  have hn0 : nears 0 (sums 0 (trk l)) (shk mvs most 0 (sums 0 (trk l))) = !(anyM mvs most 0 (trk l).length) := by
    rw [shk_near0, sums_len]
  rw [sums_difs, hn0]
  simp only [ofArgs, run_seq, run_block, run_ops, run_skip, run_exit, run_ret, thenQ_normal, thenQ_exit, thenQ_ret, blockQ_normal, blockQ_exit, blockQ_ret, retQ_ret, retQ_normal, ops_nil, ops_none, got_some, ops_wT, ops_wTn, ops_wF, ops_wFn, ops_wU, dops_wT, dops_wTn, dops_wF, dops_wFn, dops_wU, run_condT, run_condF, alt2_int, altB_bool, altI_int, altBB_bool, v_min, v_max, v_not, v_neg, optEv_none, optEv_some, isSome'_none, isSome'_some, pExt0, pExt1, pExt2, Bool.false_and, Bool.true_and, Bool.not_true, Bool.not_false, cond_true, cond_false, dops_nil, dops_none, xval_call, v_mov, v_bin, v_len, v_ext, v_idxA, v_ld, v_st, v_app, v_bs1, pBs1, v_slc, v_conv, v_fld, v_fldA, v_new, v_box, v_build, v_mks, v_copy, v_isnil, v_nilck, v_pick, ev, evs_nil, evs_cons, fr_get_cons, fr_put_nil, fr_put_cons, fr_put_some, fr_put_none, fr_keep_nil, fr_keep_cons, fr_has_nil, fr_has_cons, Option.bind_some, Option.map_some, xbin, ibin, xresult_eq, xress_nil, xress_tmp, resV, ex_some, if_true, if_false, ite_true, ite_false, reduceIte, reduceCtorEq, Nat.reduceEqDiff, Nat.reduceLT, Nat.reduceLeDiff, Nat.zero_add, Nat.reduceAdd, Bool.false_eq_true, decide_eq_true_eq, decide_eq_false_iff_not, true_implies, false_implies, and_true, true_and, ub, beq_self_eq_true]
end Go.Proofs.Ytkhjmmidaihbhaa.D
