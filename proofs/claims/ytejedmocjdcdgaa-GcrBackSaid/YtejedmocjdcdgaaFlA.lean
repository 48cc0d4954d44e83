/- What functions that the law reaches compute, on a heap of the run's own: the conditions stand in each theorem. -/
import Derived.Test.YtejedmocjdcdgaaFxShake
import Derived.Test.YtejedmocjdcdgaaCrcM
set_option linter.unusedSimpArgs false
set_option linter.unusedVariables false
namespace Go.Proofs.Ytejedmocjdcdgaa.D
open Go Go.Det

theorem mulb (a c : Int) (h1 : 1 ≤ a) (h2 : a ≤ 100) (h3 : 2 ≤ c) (h4 : c ≤ 1000) : 2 ≤ a * c ∧ a * c ≤ 100000 := by
  have e1 : 1 * c ≤ a * c := Int.mul_le_mul_of_nonneg_right h1 (by omega)
  have e2 : a * c ≤ 100 * c := Int.mul_le_mul_of_nonneg_right h2 (by omega)
  omega
theorem pulses_l0 (n0 : Nat) (cell : Int) (s : Value) (rest : List Int) : ∀ (pre acc : List Int) (v : Value) (H : AH) (i N : Int) (Q : XExit → Fr → AH → Prop), Ints H s (pre ++ rest) → (∀ b, inB s b → b < n0) → OwnI n0 H v acc → n0 ≤ H.n →
    pre.length + rest.length ≤ 40000 → acc.length + rest.length ≤ 1000000 → (∀ a ∈ rest, 1 ≤ a ∧ a ≤ 100 ∧ 2 ≤ cell ∧ cell ≤ 1000) → i = (pre.length : Int) → N = ((pre ++ rest).length : Int) →
    (∀ v' H', OwnI n0 H' v' (acc ++ (rest.map fun a => a * cell)) → Keep n0 H H' → Q (.exit 0) [(1, .int .i64 cell), (6, v'), (18, s), (19, .int .i64 N), (20, .int .i64 N), (21, .bool false)] H') →
    Run Try.prog tab (.loop xflux_Pulses_l0) [(1, .int .i64 cell), (6, v), (18, s), (19, .int .i64 N), (20, .int .i64 i)] H Q := by
  induction rest with
  | nil =>
    intro pre acc v H i N Q hs hsb ho hn hl hal hP hi hN hq
    rw [run_loop]
    generalize hL : XCode.loop xflux_Pulses_l0 = L
    have hiN : i = N := by simp at hN; omega
    subst hiN
    have hf : ¬ i < i := by omega
    simp only [xflux_Pulses_l0, ofArgs, run_seq, run_block, run_ops, run_skip, run_exit, run_ret, thenQ_normal, thenQ_exit, thenQ_ret, blockQ_normal, blockQ_exit, blockQ_ret, retQ_ret, retQ_normal, ops_nil, ops_none, got_some, ops_wT, ops_wTn, ops_wF, ops_wFn, ops_wU, dops_wT, dops_wTn, dops_wF, dops_wFn, dops_wU, run_condT, run_condF, alt2_int, altB_bool, altI_int, altBB_bool, v_min, v_max, v_not, v_neg, optEv_none, optEv_some, isSome'_none, isSome'_some, pExt0, pExt1, pExt2, Bool.false_and, Bool.true_and, Bool.not_true, Bool.not_false, cond_true, cond_false, dops_nil, dops_none, xval_call, v_mov, v_bin, v_len, v_ext, v_idxA, v_ld, v_st, v_app, v_appN, v_cvs, v_bs1, pBs1, v_slc, v_conv, v_fld, v_fldA, v_new, v_box, v_mks, v_copy, v_isnil, v_nilck, v_pick, ev, evs_nil, evs_cons, fr_get_cons, fr_put_nil, fr_put_cons, fr_put_some, fr_put_none, fr_keep_nil, fr_keep_cons, fr_has_nil, fr_has_cons, Option.bind_some, Option.map_some, xbin, ibin, xresult_eq, xress_nil, xress_tmp, resV, ex_some, if_true, if_false, ite_true, ite_false, reduceIte, reduceCtorEq, Nat.reduceEqDiff, Nat.reduceLT, Nat.reduceLeDiff, Int.reduceLT, Int.reduceLE, Nat.zero_add, Nat.reduceAdd, Bool.false_eq_true, decide_eq_true_eq, decide_eq_false_iff_not, true_implies, false_implies, and_true, true_and, hf, decide_false]
    have := hq v H (by simpa using ho) (.refl _ _)
    simpa using this
  | cons a rest ih =>
    intro pre acc v H i N Q hs hsb ho hn hl hal hP hi hN hq
    simp only [List.length_cons] at hl hal
    rw [run_loop]
    generalize hL : XCode.loop xflux_Pulses_l0 = L
    have hlt : i < N := by simp at hN; omega
    have ha := hP a (by simp)
    have e1 := ints_idx hs i pre.length hi (by simp)
    have e2 := ints_ld hs pre.length a (by simp)
    have e4 := wrI (i + 1) (by omega) (by omega)
    have m0 := mulb a cell (by omega) (by omega) (by omega) (by omega)
    have e3 := wrI (a * cell) (by omega) (by omega)
    have c1 : ¬ a < 1 := by omega
    have c2 : ¬ a > 100 := by omega
    simp only [xflux_Pulses_l0, ofArgs, run_seq, run_block, run_ops, run_skip, run_exit, run_ret, thenQ_normal, thenQ_exit, thenQ_ret, blockQ_normal, blockQ_exit, blockQ_ret, retQ_ret, retQ_normal, ops_nil, ops_none, got_some, ops_wT, ops_wTn, ops_wF, ops_wFn, ops_wU, dops_wT, dops_wTn, dops_wF, dops_wFn, dops_wU, run_condT, run_condF, alt2_int, altB_bool, altI_int, altBB_bool, v_min, v_max, v_not, v_neg, optEv_none, optEv_some, isSome'_none, isSome'_some, pExt0, pExt1, pExt2, Bool.false_and, Bool.true_and, Bool.not_true, Bool.not_false, cond_true, cond_false, dops_nil, dops_none, xval_call, v_mov, v_bin, v_len, v_ext, v_idxA, v_ld, v_st, v_app, v_appN, v_cvs, v_bs1, pBs1, v_slc, v_conv, v_fld, v_fldA, v_new, v_box, v_mks, v_copy, v_isnil, v_nilck, v_pick, ev, evs_nil, evs_cons, fr_get_cons, fr_put_nil, fr_put_cons, fr_put_some, fr_put_none, fr_keep_nil, fr_keep_cons, fr_has_nil, fr_has_cons, Option.bind_some, Option.map_some, xbin, ibin, xresult_eq, xress_nil, xress_tmp, resV, ex_some, if_true, if_false, ite_true, ite_false, reduceIte, reduceCtorEq, Nat.reduceEqDiff, Nat.reduceLT, Nat.reduceLeDiff, Int.reduceLT, Int.reduceLE, Nat.zero_add, Nat.reduceAdd, Bool.false_eq_true, decide_eq_true_eq, decide_eq_false_iff_not, true_implies, false_implies, and_true, true_and, hlt, decide_true, e1, e2, e4, e3, c1, c2, decide_false]
    refine app_one ho hn (by omega) fun v' H' ho' hs' => ?_
    have hk := hs'.keep ho hn
    subst hL
    refine ih (pre ++ [a]) (acc ++ [a * cell]) v' H' (i + 1) N Q ((Ints.keep hs hk hsb).app1) hsb ho' (by have := hk.1; omega) (by simp; omega) (by simp; omega) (fun p hp => hP p (by simp [hp])) (by simp; omega) (by simpa using hN) ?_
    intro v2 H2 ho2 hk2
    exact hq v2 H2 (by simpa using ho2) (hk.trans hk2)

/-- the track of numbers of cells -/
def pul (cell : Int) (l : List Int) : List Int := l.map fun a => a * cell
theorem pulses_ok (l : List Int) (cell : Int) (s : Value) (H : AH) (Q : Value → AH → Prop) (hs : Ints H s l) (hl : l.length ≤ 40000) (h2 : 2 ≤ cell) (h3 : cell ≤ 1000) (hP : ∀ a ∈ l, 1 ≤ a ∧ a ≤ 100)
    (hq : ∀ v H', OwnI H.n H' v (pul cell l) → HExt H H' → Q (.tuple [v, .int .i64 0].toArray) H') : Got (xc Try.prog tab 62 [s, .int .i64 cell] H) Q := by
  refine got_call (res := [.tmp 4, .tmp 5]) rfl ?_
  have e1 := ints_len hs
  have c1 : ¬ cell < 2 := by omega
  have c2 : ¬ cell > 1000 := by omega
  have c3 : ¬ (l.length : Int) > 40000 := by omega
  simp only [ofArgs, run_seq, run_block, run_ops, run_skip, run_exit, run_ret, thenQ_normal, thenQ_exit, thenQ_ret, blockQ_normal, blockQ_exit, blockQ_ret, retQ_ret, retQ_normal, ops_nil, ops_none, got_some, ops_wT, ops_wTn, ops_wF, ops_wFn, ops_wU, dops_wT, dops_wTn, dops_wF, dops_wFn, dops_wU, run_condT, run_condF, alt2_int, altB_bool, altI_int, altBB_bool, v_min, v_max, v_not, v_neg, optEv_none, optEv_some, isSome'_none, isSome'_some, pExt0, pExt1, pExt2, Bool.false_and, Bool.true_and, Bool.not_true, Bool.not_false, cond_true, cond_false, dops_nil, dops_none, xval_call, v_mov, v_bin, v_len, v_ext, v_idxA, v_ld, v_st, v_app, v_appN, v_cvs, v_bs1, pBs1, v_slc, v_conv, v_fld, v_fldA, v_new, v_box, v_mks, v_copy, v_isnil, v_nilck, v_pick, ev, evs_nil, evs_cons, fr_get_cons, fr_put_nil, fr_put_cons, fr_put_some, fr_put_none, fr_keep_nil, fr_keep_cons, fr_has_nil, fr_has_cons, Option.bind_some, Option.map_some, xbin, ibin, xresult_eq, xress_nil, xress_tmp, resV, ex_some, if_true, if_false, ite_true, ite_false, reduceIte, reduceCtorEq, Nat.reduceEqDiff, Nat.reduceLT, Nat.reduceLeDiff, Int.reduceLT, Int.reduceLE, Nat.zero_add, Nat.reduceAdd, Bool.false_eq_true, decide_eq_true_eq, decide_eq_false_iff_not, true_implies, false_implies, and_true, true_and, e1, c1, c2, c3, decide_false]
  refine pulses_l0 H.n cell s l [] [] _ H _ _ _ hs (fun b hb => hs.lt b hb) (OwnI.nil _ _) (Nat.le_refl _) (by simpa using hl) (by simp; omega) (fun a ha => by have := hP a ha; omega) (by simp) (by simp) ?_
  intro v H' o k
  simp only [ofArgs, run_seq, run_block, run_ops, run_skip, run_exit, run_ret, thenQ_normal, thenQ_exit, thenQ_ret, blockQ_normal, blockQ_exit, blockQ_ret, retQ_ret, retQ_normal, ops_nil, ops_none, got_some, ops_wT, ops_wTn, ops_wF, ops_wFn, ops_wU, dops_wT, dops_wTn, dops_wF, dops_wFn, dops_wU, run_condT, run_condF, alt2_int, altB_bool, altI_int, altBB_bool, v_min, v_max, v_not, v_neg, optEv_none, optEv_some, isSome'_none, isSome'_some, pExt0, pExt1, pExt2, Bool.false_and, Bool.true_and, Bool.not_true, Bool.not_false, cond_true, cond_false, dops_nil, dops_none, xval_call, v_mov, v_bin, v_len, v_ext, v_idxA, v_ld, v_st, v_app, v_appN, v_cvs, v_bs1, pBs1, v_slc, v_conv, v_fld, v_fldA, v_new, v_box, v_mks, v_copy, v_isnil, v_nilck, v_pick, ev, evs_nil, evs_cons, fr_get_cons, fr_put_nil, fr_put_cons, fr_put_some, fr_put_none, fr_keep_nil, fr_keep_cons, fr_has_nil, fr_has_cons, Option.bind_some, Option.map_some, xbin, ibin, xresult_eq, xress_nil, xress_tmp, resV, ex_some, if_true, if_false, ite_true, ite_false, reduceIte, reduceCtorEq, Nat.reduceEqDiff, Nat.reduceLT, Nat.reduceLeDiff, Int.reduceLT, Int.reduceLE, Nat.zero_add, Nat.reduceAdd, Bool.false_eq_true, decide_eq_true_eq, decide_eq_false_iff_not, true_implies, false_implies, and_true, true_and]
  exact hq v H' (by simpa [pul] using o) k
/-- the number of cells of a time -/
def celOf (cell p : Int) : Int := Int.tdiv (2 * p + cell) (2 * cell)
theorem cells_l0 (n0 : Nat) (cell most : Int) (s : Value) (rest : List Int) : ∀ (pre acc : List Int) (v : Value) (H : AH) (i N : Int) (Q : XExit → Fr → AH → Prop), Ints H s (pre ++ rest) → (∀ b, inB s b → b < n0) → OwnI n0 H v acc → n0 ≤ H.n →
    pre.length + rest.length ≤ 40000 → acc.length + rest.length ≤ 1000000 → (∀ a ∈ rest, 1 ≤ a ∧ a ≤ 100000 ∧ 2 ≤ cell ∧ cell ≤ 1000 ∧ 1 ≤ celOf cell a ∧ celOf cell a ≤ most ∧ most ≤ 1000) → i = (pre.length : Int) → N = ((pre ++ rest).length : Int) →
    (∀ v' H', OwnI n0 H' v' (acc ++ (rest.map fun a => celOf cell a)) → Keep n0 H H' → Q (.exit 0) [(1, .int .i64 cell), (2, .int .i64 most), (9, v'), (24, s), (25, .int .i64 N), (26, .int .i64 N), (27, .bool false)] H') →
    Run Try.prog tab (.loop xflux_Cells_l0) [(1, .int .i64 cell), (2, .int .i64 most), (9, v), (24, s), (25, .int .i64 N), (26, .int .i64 i)] H Q := by
  induction rest with
  | nil =>
    intro pre acc v H i N Q hs hsb ho hn hl hal hP hi hN hq
    rw [run_loop]
    generalize hL : XCode.loop xflux_Cells_l0 = L
    have hiN : i = N := by simp at hN; omega
    subst hiN
    have hf : ¬ i < i := by omega
    simp only [xflux_Cells_l0, ofArgs, run_seq, run_block, run_ops, run_skip, run_exit, run_ret, thenQ_normal, thenQ_exit, thenQ_ret, blockQ_normal, blockQ_exit, blockQ_ret, retQ_ret, retQ_normal, ops_nil, ops_none, got_some, ops_wT, ops_wTn, ops_wF, ops_wFn, ops_wU, dops_wT, dops_wTn, dops_wF, dops_wFn, dops_wU, run_condT, run_condF, alt2_int, altB_bool, altI_int, altBB_bool, v_min, v_max, v_not, v_neg, optEv_none, optEv_some, isSome'_none, isSome'_some, pExt0, pExt1, pExt2, Bool.false_and, Bool.true_and, Bool.not_true, Bool.not_false, cond_true, cond_false, dops_nil, dops_none, xval_call, v_mov, v_bin, v_len, v_ext, v_idxA, v_ld, v_st, v_app, v_appN, v_cvs, v_bs1, pBs1, v_slc, v_conv, v_fld, v_fldA, v_new, v_box, v_mks, v_copy, v_isnil, v_nilck, v_pick, ev, evs_nil, evs_cons, fr_get_cons, fr_put_nil, fr_put_cons, fr_put_some, fr_put_none, fr_keep_nil, fr_keep_cons, fr_has_nil, fr_has_cons, Option.bind_some, Option.map_some, xbin, ibin, xresult_eq, xress_nil, xress_tmp, resV, ex_some, if_true, if_false, ite_true, ite_false, reduceIte, reduceCtorEq, Nat.reduceEqDiff, Nat.reduceLT, Nat.reduceLeDiff, Int.reduceLT, Int.reduceLE, Nat.zero_add, Nat.reduceAdd, Bool.false_eq_true, decide_eq_true_eq, decide_eq_false_iff_not, true_implies, false_implies, and_true, true_and, hf, decide_false]
    have := hq v H (by simpa using ho) (.refl _ _)
    simpa using this
  | cons a rest ih =>
    intro pre acc v H i N Q hs hsb ho hn hl hal hP hi hN hq
    simp only [List.length_cons] at hl hal
    rw [run_loop]
    generalize hL : XCode.loop xflux_Cells_l0 = L
    have hlt : i < N := by simp at hN; omega
    have ha := hP a (by simp)
    have e1 := ints_idx hs i pre.length hi (by simp)
    have e2 := ints_ld hs pre.length a (by simp)
    have e4 := wrI (i + 1) (by omega) (by omega)
    have e3 := wrI (2 * a) (by omega) (by omega)
    have e5 := wrI (2 * a + cell) (by omega) (by omega)
    have e6 := wrI (2 * cell) (by omega) (by omega)
    have e7 : Int.tdiv (2 * a + cell) (2 * cell) = celOf cell a := rfl
    have e8 := wrI (celOf cell a) (by omega) (by omega)
    have c1 : ¬ celOf cell a < 1 := by omega
    have c2 : ¬ celOf cell a > most := by omega
    have c3 : ¬ 2 * cell = 0 := by omega
    simp only [xflux_Cells_l0, ofArgs, run_seq, run_block, run_ops, run_skip, run_exit, run_ret, thenQ_normal, thenQ_exit, thenQ_ret, blockQ_normal, blockQ_exit, blockQ_ret, retQ_ret, retQ_normal, ops_nil, ops_none, got_some, ops_wT, ops_wTn, ops_wF, ops_wFn, ops_wU, dops_wT, dops_wTn, dops_wF, dops_wFn, dops_wU, run_condT, run_condF, alt2_int, altB_bool, altI_int, altBB_bool, v_min, v_max, v_not, v_neg, optEv_none, optEv_some, isSome'_none, isSome'_some, pExt0, pExt1, pExt2, Bool.false_and, Bool.true_and, Bool.not_true, Bool.not_false, cond_true, cond_false, dops_nil, dops_none, xval_call, v_mov, v_bin, v_len, v_ext, v_idxA, v_ld, v_st, v_app, v_appN, v_cvs, v_bs1, pBs1, v_slc, v_conv, v_fld, v_fldA, v_new, v_box, v_mks, v_copy, v_isnil, v_nilck, v_pick, ev, evs_nil, evs_cons, fr_get_cons, fr_put_nil, fr_put_cons, fr_put_some, fr_put_none, fr_keep_nil, fr_keep_cons, fr_has_nil, fr_has_cons, Option.bind_some, Option.map_some, xbin, ibin, xresult_eq, xress_nil, xress_tmp, resV, ex_some, if_true, if_false, ite_true, ite_false, reduceIte, reduceCtorEq, Nat.reduceEqDiff, Nat.reduceLT, Nat.reduceLeDiff, Int.reduceLT, Int.reduceLE, Nat.zero_add, Nat.reduceAdd, Bool.false_eq_true, decide_eq_true_eq, decide_eq_false_iff_not, true_implies, false_implies, and_true, true_and, hlt, decide_true, e1, e2, e4, e3, e5, e6, e7, e8, c1, c2, c3, decide_false]
    refine app_one ho hn (by omega) fun v' H' ho' hs' => ?_
    have hk := hs'.keep ho hn
    subst hL
    refine ih (pre ++ [a]) (acc ++ [celOf cell a]) v' H' (i + 1) N Q ((Ints.keep hs hk hsb).app1) hsb ho' (by have := hk.1; omega) (by simp; omega) (by simp; omega) (fun p hp => hP p (by simp [hp])) (by simp; omega) (by simpa using hN) ?_
    intro v2 H2 ho2 hk2
    exact hq v2 H2 (by simpa using ho2) (hk.trans hk2)

theorem cells_ok (l : List Int) (cell most : Int) (s : Value) (H : AH) (Q : Value → AH → Prop) (hs : Ints H s l) (hl : l.length ≤ 40000) (h2 : 2 ≤ cell) (h3 : cell ≤ 1000) (hm : most ≤ 1000) (hok : Ok l) (hP : ∀ a ∈ l, 1 ≤ celOf cell a ∧ celOf cell a ≤ most)
    (hq : ∀ v H', OwnI H.n H' v (l.map (celOf cell)) → HExt H H' → Q (.tuple [v, .int .i64 0].toArray) H') : Got (xc Try.prog tab 63 [s, .int .i64 cell, .int .i64 most] H) Q := by
  refine got_call (res := [.tmp 6, .tmp 7]) rfl ?_
  have e1 := ints_len hs
  have e2 := check_xc l s H hs hl hok
  have c1 : ¬ cell < 2 := by omega
  have c2 : ¬ cell > 1000 := by omega
  simp only [ofArgs, run_seq, run_block, run_ops, run_skip, run_exit, run_ret, thenQ_normal, thenQ_exit, thenQ_ret, blockQ_normal, blockQ_exit, blockQ_ret, retQ_ret, retQ_normal, ops_nil, ops_none, got_some, ops_wT, ops_wTn, ops_wF, ops_wFn, ops_wU, dops_wT, dops_wTn, dops_wF, dops_wFn, dops_wU, run_condT, run_condF, alt2_int, altB_bool, altI_int, altBB_bool, v_min, v_max, v_not, v_neg, optEv_none, optEv_some, isSome'_none, isSome'_some, pExt0, pExt1, pExt2, Bool.false_and, Bool.true_and, Bool.not_true, Bool.not_false, cond_true, cond_false, dops_nil, dops_none, xval_call, v_mov, v_bin, v_len, v_ext, v_idxA, v_ld, v_st, v_app, v_appN, v_cvs, v_bs1, pBs1, v_slc, v_conv, v_fld, v_fldA, v_new, v_box, v_mks, v_copy, v_isnil, v_nilck, v_pick, ev, evs_nil, evs_cons, fr_get_cons, fr_put_nil, fr_put_cons, fr_put_some, fr_put_none, fr_keep_nil, fr_keep_cons, fr_has_nil, fr_has_cons, Option.bind_some, Option.map_some, xbin, ibin, xresult_eq, xress_nil, xress_tmp, resV, ex_some, if_true, if_false, ite_true, ite_false, reduceIte, reduceCtorEq, Nat.reduceEqDiff, Nat.reduceLT, Nat.reduceLeDiff, Int.reduceLT, Int.reduceLE, Nat.zero_add, Nat.reduceAdd, Bool.false_eq_true, decide_eq_true_eq, decide_eq_false_iff_not, true_implies, false_implies, and_true, true_and, e1, e2, c1, c2, decide_false, bne_self_eq_false]
  refine cells_l0 H.n cell most s l [] [] _ H _ _ _ hs (fun b hb => hs.lt b hb) (OwnI.nil _ _) (Nat.le_refl _) (by simpa using hl) (by simp; omega) (fun a ha => by have := hP a ha; have := hok a ha; omega) (by simp) (by simp) ?_
  intro v H' o k
  simp only [ofArgs, run_seq, run_block, run_ops, run_skip, run_exit, run_ret, thenQ_normal, thenQ_exit, thenQ_ret, blockQ_normal, blockQ_exit, blockQ_ret, retQ_ret, retQ_normal, ops_nil, ops_none, got_some, ops_wT, ops_wTn, ops_wF, ops_wFn, ops_wU, dops_wT, dops_wTn, dops_wF, dops_wFn, dops_wU, run_condT, run_condF, alt2_int, altB_bool, altI_int, altBB_bool, v_min, v_max, v_not, v_neg, optEv_none, optEv_some, isSome'_none, isSome'_some, pExt0, pExt1, pExt2, Bool.false_and, Bool.true_and, Bool.not_true, Bool.not_false, cond_true, cond_false, dops_nil, dops_none, xval_call, v_mov, v_bin, v_len, v_ext, v_idxA, v_ld, v_st, v_app, v_appN, v_cvs, v_bs1, pBs1, v_slc, v_conv, v_fld, v_fldA, v_new, v_box, v_mks, v_copy, v_isnil, v_nilck, v_pick, ev, evs_nil, evs_cons, fr_get_cons, fr_put_nil, fr_put_cons, fr_put_some, fr_put_none, fr_keep_nil, fr_keep_cons, fr_has_nil, fr_has_cons, Option.bind_some, Option.map_some, xbin, ibin, xresult_eq, xress_nil, xress_tmp, resV, ex_some, if_true, if_false, ite_true, ite_false, reduceIte, reduceCtorEq, Nat.reduceEqDiff, Nat.reduceLT, Nat.reduceLeDiff, Int.reduceLT, Int.reduceLE, Nat.zero_add, Nat.reduceAdd, Bool.false_eq_true, decide_eq_true_eq, decide_eq_false_iff_not, true_implies, false_implies, and_true, true_and]
  exact hq v H' (by simpa using o) k

/-! what a shake does to pulses -/
def shd (l : List Int) (most : Int) : Nat → Int → List Int → List Int
  | _, _, [] => []
  | k, m0, p :: t => (p + mvAt l most k - m0) :: shd l most (k + 1) (mvAt l most k) t
theorem shd_len (l : List Int) (most : Int) (t : List Int) : ∀ k m0, (shd l most k m0 t).length = t.length := by
  induction t with
  | nil => intro k m0; rfl
  | cons p t ih => intro k m0; simp [shd, ih]
theorem shk_shd (l : List Int) (most : Int) (t : List Int) : ∀ (a m0 : Int) (k : Nat), difs (a + m0) (shk l most k (sums a t)) = shd l most k m0 t := by
  induction t with
  | nil => intro a m0 k; rfl
  | cons p t ih =>
    intro a m0 k
    simp only [sums, shk, difs, shd]
    rw [ih (a + p) (mvAt l most k) (k + 1)]
    congr 1
    omega
theorem cel_near (cell most k d e : Int) (hc : 2 ≤ cell) (hm : 4 * most ≤ cell - 1) (hd : -most ≤ d ∧ d ≤ most) (he : -most ≤ e ∧ e ≤ most) (hk : 1 ≤ k) (hk2 : k ≤ 50) (hc2 : cell ≤ 1000) :
    celOf cell (k * cell + d - e) = k ∧ 1 ≤ k * cell + d - e ∧ k * cell + d - e ≤ 100000 := by
  have hb := mulb k cell hk (by omega) hc hc2
  have h1 : 1 * cell ≤ k * cell := Int.mul_le_mul_of_nonneg_right hk (by omega)
  have h2 : k * cell ≤ 50 * cell := Int.mul_le_mul_of_nonneg_right hk2 (by omega)
  refine ⟨?_, by omega, by omega⟩
  unfold celOf
  rw [Int.tdiv_eq_ediv_of_nonneg (by omega)]
  have e1 : 2 * (k * cell + d - e) + cell = (2 * (d - e) + cell) + k * (2 * cell) := by
    have : k * (2 * cell) = 2 * (k * cell) := by rw [Int.mul_left_comm]
    omega
  rw [e1, Int.add_mul_ediv_right _ _ (by omega), Int.ediv_eq_zero_of_lt (by omega) (by omega)]
  omega
theorem shd_cells (l : List Int) (cell most : Int) (h0 : 0 ≤ most) (hc : 2 ≤ cell) (hc2 : cell ≤ 1000) (hm : 4 * most ≤ cell - 1) (t : List Int) (ht : ∀ a ∈ t, 1 ≤ a ∧ a ≤ 50) : ∀ (k : Nat) (m0 : Int), -most ≤ m0 → m0 ≤ most →
    Ok (shd l most k m0 (pul cell t)) ∧ (shd l most k m0 (pul cell t)).map (celOf cell) = t := by
  induction t with
  | nil => intro k m0 _ _; exact ⟨fun p hp => by simp [pul, shd] at hp, rfl⟩
  | cons a t ih =>
    intro k m0 h1 h2
    have ha := ht a (by simp)
    have hb := mv_bnd l most h0 k
    have hn := cel_near cell most a (mvAt l most k) m0 hc hm hb ⟨h1, h2⟩ ha.1 ha.2 hc2
    obtain ⟨i1, i2⟩ := ih (fun x hx => ht x (by simp [hx])) (k + 1) (mvAt l most k) hb.1 hb.2
    refine ⟨fun p hp => ?_, ?_⟩
    · simp only [pul, List.map_cons, shd, List.mem_cons] at hp
      rcases hp with rfl | hp
      · exact hn.2
      · exact i1 p hp
    · simp only [pul, List.map_cons, shd]
      rw [hn.1]
      congr 1
theorem pul_cells (cell : Int) (hc : 2 ≤ cell) (hc2 : cell ≤ 1000) (t : List Int) (ht : ∀ a ∈ t, 1 ≤ a ∧ a ≤ 50) : (pul cell t).map (celOf cell) = t := by
  induction t with
  | nil => rfl
  | cons a t ih =>
    have ha := ht a (by simp)
    have hn := cel_near cell 0 a 0 0 hc (by omega) (by omega) (by omega) ha.1 ha.2 hc2
    have e := ih (fun x hx => ht x (by simp [hx]))
    unfold pul at e ⊢
    simp only [List.map_cons]
    rw [e]
    congr 1
    simpa using hn.1
theorem pul_ok (cell : Int) (hc : 2 ≤ cell) (hc2 : cell ≤ 1000) (t : List Int) (ht : ∀ a ∈ t, 1 ≤ a ∧ a ≤ 100) : Ok (pul cell t) := by
  intro p hp
  simp only [pul, List.mem_map] at hp
  obtain ⟨a, ha, rfl⟩ := hp
  have := mulb a cell (ht a ha).1 (ht a ha).2 hc hc2
  omega
theorem pul_sum (cell : Int) (t : List Int) : (pul cell t).sum = t.sum * cell := by
  induction t with
  | nil => simp [pul]
  | cons a t ih =>
    have : pul cell (a :: t) = a * cell :: pul cell t := rfl
    rw [this, List.sum_cons, ih, List.sum_cons, Int.add_mul]
theorem shaken_l0 (n0 : Nat) (most : Int) (hm0 : 0 ≤ most) (hm1 : most ≤ 1000) (t : Value) (s : Value) (rest : List Int) : ∀ (pre acc : List Int) (v : Value) (H : AH) (i N : Int) (Q : XExit → Fr → AH → Prop), Ints H s (pre ++ rest) → (∀ b, inB s b → b < n0) → OwnI n0 H v acc → n0 ≤ H.n →
    pre.length + rest.length ≤ 17592186044416 → acc.length + rest.length ≤ 17592186044416 → i = (pre.length : Int) → N = ((pre ++ rest).length : Int) →
    (∀ v' H', OwnI n0 H' v' (acc ++ (rest.map fun a => a % (2 * most + 1) - most)) → Keep n0 H H' → Q (.exit 0) [(0, t), (8, .int .i64 most), (9, v'), (17, s), (18, .int .i64 N), (19, .int .i64 N), (20, .bool false)] H') →
    Run Try.prog tab (.loop xbakekeep2_shaken_l0) [(0, t), (8, .int .i64 most), (9, v), (17, s), (18, .int .i64 N), (19, .int .i64 i)] H Q := by
  induction rest with
  | nil =>
    intro pre acc v H i N Q hs hsb ho hn hl hal hi hN hq
    rw [run_loop]
    generalize hL : XCode.loop xbakekeep2_shaken_l0 = L
    have hiN : i = N := by simp at hN; omega
    subst hiN
    have hf : ¬ i < i := by omega
    simp only [xbakekeep2_shaken_l0, ofArgs, run_seq, run_block, run_ops, run_skip, run_exit, run_ret, thenQ_normal, thenQ_exit, thenQ_ret, blockQ_normal, blockQ_exit, blockQ_ret, retQ_ret, retQ_normal, ops_nil, ops_none, got_some, ops_wT, ops_wTn, ops_wF, ops_wFn, ops_wU, dops_wT, dops_wTn, dops_wF, dops_wFn, dops_wU, run_condT, run_condF, alt2_int, altB_bool, altI_int, altBB_bool, v_min, v_max, v_not, v_neg, optEv_none, optEv_some, isSome'_none, isSome'_some, pExt0, pExt1, pExt2, Bool.false_and, Bool.true_and, Bool.not_true, Bool.not_false, cond_true, cond_false, dops_nil, dops_none, xval_call, v_mov, v_bin, v_len, v_ext, v_idxA, v_ld, v_st, v_app, v_appN, v_cvs, v_bs1, pBs1, v_slc, v_conv, v_fld, v_fldA, v_new, v_box, v_mks, v_copy, v_isnil, v_nilck, v_pick, ev, evs_nil, evs_cons, fr_get_cons, fr_put_nil, fr_put_cons, fr_put_some, fr_put_none, fr_keep_nil, fr_keep_cons, fr_has_nil, fr_has_cons, Option.bind_some, Option.map_some, xbin, ibin, xresult_eq, xress_nil, xress_tmp, resV, ex_some, if_true, if_false, ite_true, ite_false, reduceIte, reduceCtorEq, Nat.reduceEqDiff, Nat.reduceLT, Nat.reduceLeDiff, Int.reduceLT, Int.reduceLE, Nat.zero_add, Nat.reduceAdd, Bool.false_eq_true, decide_eq_true_eq, decide_eq_false_iff_not, true_implies, false_implies, and_true, true_and, hf, decide_false]
    have := hq v H (by simpa using ho) (.refl _ _)
    simpa using this
  | cons a rest ih =>
    intro pre acc v H i N Q hs hsb ho hn hl hal hi hN hq
    simp only [List.length_cons] at hl hal
    rw [run_loop]
    generalize hL : XCode.loop xbakekeep2_shaken_l0 = L
    have hlt : i < N := by simp at hN; omega
    have e1 := ints_idx hs i pre.length hi (by simp)
    have e2 := ints_ld hs pre.length a (by simp)
    have e4 := wrI (i + 1) (by omega) (by omega)
    have m0 : 0 < 2 * most + 1 := by omega
    have h0 := Int.emod_nonneg a (by omega : 2 * most + 1 ≠ 0)
    have h3 := Int.emod_lt_of_pos a m0
    have e3 := wrI (2 * most) (by omega) (by omega)
    have e5 := wrI (2 * most + 1) (by omega) (by omega)
    have e6 := wrI (a % (2 * most + 1) - most) (by omega) (by omega)
    have e7 := below_xc a (2 * most + 1) H m0 (by omega)
    simp only [xbakekeep2_shaken_l0, ofArgs, run_seq, run_block, run_ops, run_skip, run_exit, run_ret, thenQ_normal, thenQ_exit, thenQ_ret, blockQ_normal, blockQ_exit, blockQ_ret, retQ_ret, retQ_normal, ops_nil, ops_none, got_some, ops_wT, ops_wTn, ops_wF, ops_wFn, ops_wU, dops_wT, dops_wTn, dops_wF, dops_wFn, dops_wU, run_condT, run_condF, alt2_int, altB_bool, altI_int, altBB_bool, v_min, v_max, v_not, v_neg, optEv_none, optEv_some, isSome'_none, isSome'_some, pExt0, pExt1, pExt2, Bool.false_and, Bool.true_and, Bool.not_true, Bool.not_false, cond_true, cond_false, dops_nil, dops_none, xval_call, v_mov, v_bin, v_len, v_ext, v_idxA, v_ld, v_st, v_app, v_appN, v_cvs, v_bs1, pBs1, v_slc, v_conv, v_fld, v_fldA, v_new, v_box, v_mks, v_copy, v_isnil, v_nilck, v_pick, ev, evs_nil, evs_cons, fr_get_cons, fr_put_nil, fr_put_cons, fr_put_some, fr_put_none, fr_keep_nil, fr_keep_cons, fr_has_nil, fr_has_cons, Option.bind_some, Option.map_some, xbin, ibin, xresult_eq, xress_nil, xress_tmp, resV, ex_some, if_true, if_false, ite_true, ite_false, reduceIte, reduceCtorEq, Nat.reduceEqDiff, Nat.reduceLT, Nat.reduceLeDiff, Int.reduceLT, Int.reduceLE, Nat.zero_add, Nat.reduceAdd, Bool.false_eq_true, decide_eq_true_eq, decide_eq_false_iff_not, true_implies, false_implies, and_true, true_and, hlt, decide_true, e1, e2, e4, e3, e5, e6, e7]
    refine app_one ho hn (by omega) fun v' H' ho' hs' => ?_
    have hk := hs'.keep ho hn
    subst hL
    refine ih (pre ++ [a]) (acc ++ [a % (2 * most + 1) - most]) v' H' (i + 1) N Q ((Ints.keep hs hk hsb).app1) hsb ho' (by have := hk.1; omega) (by simp; omega) (by simp; omega) (by simp; omega) (by simpa using hN) ?_
    intro v2 H2 ho2 hk2
    exact hq v2 H2 (by simpa using ho2) (hk.trans hk2)

theorem shaken_ok (t by_ : List Int) (cell : Int) (s u : Value) (H : AH) (Q : Value → AH → Prop) (hs : Ints H s (pul cell t)) (hu : Ints H u by_) (hby : by_.length ≤ 17592186044416) (hl : t.length ≤ 40000) (hc : 2 ≤ cell) (hc2 : cell ≤ 1000) (ht : ∀ a ∈ t, 1 ≤ a ∧ a ≤ 50)
    (hq : ∀ v H' w, OwnI H.n H' v w → w.length = t.length → Ok w → w.map (celOf cell) = t → HExt H H' → Q (.tuple [v, .bool true].toArray) H') : Got (xc Try.prog tab 16 [s, u, .int .i64 cell] H) Q := by
  refine got_call (res := [.tmp 6, .tmp 7]) rfl ?_
  have e1 := ints_len hu
  have w1 := wrI (cell - 1) (by omega) (by omega)
  have d1 : Int.tdiv (cell - 1) 4 = (cell - 1) / 4 := Int.tdiv_eq_ediv_of_nonneg (by omega)
  have w2 := wrI ((cell - 1) / 4) (by omega) (by omega)
  have c4 : ¬ (4 : Int) = 0 := by omega
  simp only [ofArgs, run_seq, run_block, run_ops, run_skip, run_exit, run_ret, thenQ_normal, thenQ_exit, thenQ_ret, blockQ_normal, blockQ_exit, blockQ_ret, retQ_ret, retQ_normal, ops_nil, ops_none, got_some, ops_wT, ops_wTn, ops_wF, ops_wFn, ops_wU, dops_wT, dops_wTn, dops_wF, dops_wFn, dops_wU, run_condT, run_condF, alt2_int, altB_bool, altI_int, altBB_bool, v_min, v_max, v_not, v_neg, optEv_none, optEv_some, isSome'_none, isSome'_some, pExt0, pExt1, pExt2, Bool.false_and, Bool.true_and, Bool.not_true, Bool.not_false, cond_true, cond_false, dops_nil, dops_none, xval_call, v_mov, v_bin, v_len, v_ext, v_idxA, v_ld, v_st, v_app, v_appN, v_cvs, v_bs1, pBs1, v_slc, v_conv, v_fld, v_fldA, v_new, v_box, v_mks, v_copy, v_isnil, v_nilck, v_pick, ev, evs_nil, evs_cons, fr_get_cons, fr_put_nil, fr_put_cons, fr_put_some, fr_put_none, fr_keep_nil, fr_keep_cons, fr_has_nil, fr_has_cons, Option.bind_some, Option.map_some, xbin, ibin, xresult_eq, xress_nil, xress_tmp, resV, ex_some, if_true, if_false, ite_true, ite_false, reduceIte, reduceCtorEq, Nat.reduceEqDiff, Nat.reduceLT, Nat.reduceLeDiff, Int.reduceLT, Int.reduceLE, Nat.zero_add, Nat.reduceAdd, Bool.false_eq_true, decide_eq_true_eq, decide_eq_false_iff_not, true_implies, false_implies, and_true, true_and, e1, w1, d1, w2, c4]
  have hm0 : 0 ≤ (cell - 1) / 4 := by omega
  have hm1 : (cell - 1) / 4 ≤ 1000 := by omega
  have hm4 : 4 * ((cell - 1) / 4) ≤ cell - 1 := by omega
  generalize (cell - 1) / 4 = most at hm0 hm1 hm4
  refine shaken_l0 H.n most hm0 hm1 s u by_ [] [] _ H _ _ _ hu (fun b hb => hu.lt b hb) (OwnI.nil _ _) (Nat.le_refl _) (by simpa using hby) (by simpa using hby) (by simp) (by simp) ?_
  intro v1 H1 o1 k1
  have x1 : HExt H H1 := k1
  have s1 : Ints H1 s (pul cell t) := Sl.ext x1 hs
  have hlm : ([] ++ by_.map fun a => a % (2 * most + 1) - most).length = by_.length := by simp
  generalize ([] ++ by_.map fun a => a % (2 * most + 1) - most) = mvs at o1 hlm
  have sc := shd_cells mvs cell most hm0 hc hc2 hm4 t ht 0 0 (by omega) (by omega)
  have es : difs 0 (shk mvs most 0 (sums 0 (pul cell t))) = shd mvs most 0 0 (pul cell t) := by
    have := shk_shd mvs most (pul cell t) 0 0 0
    simpa using this
  have hlen : (pul cell t).length = t.length := by simp [pul]
  simp only [ofArgs, run_seq, run_block, run_ops, run_skip, run_exit, run_ret, thenQ_normal, thenQ_exit, thenQ_ret, blockQ_normal, blockQ_exit, blockQ_ret, retQ_ret, retQ_normal, ops_nil, ops_none, got_some, ops_wT, ops_wTn, ops_wF, ops_wFn, ops_wU, dops_wT, dops_wTn, dops_wF, dops_wFn, dops_wU, run_condT, run_condF, alt2_int, altB_bool, altI_int, altBB_bool, v_min, v_max, v_not, v_neg, optEv_none, optEv_some, isSome'_none, isSome'_some, pExt0, pExt1, pExt2, Bool.false_and, Bool.true_and, Bool.not_true, Bool.not_false, cond_true, cond_false, dops_nil, dops_none, xval_call, v_mov, v_bin, v_len, v_ext, v_idxA, v_ld, v_st, v_app, v_appN, v_cvs, v_bs1, pBs1, v_slc, v_conv, v_fld, v_fldA, v_new, v_box, v_mks, v_copy, v_isnil, v_nilck, v_pick, ev, evs_nil, evs_cons, fr_get_cons, fr_put_nil, fr_put_cons, fr_put_some, fr_put_none, fr_keep_nil, fr_keep_cons, fr_has_nil, fr_has_cons, Option.bind_some, Option.map_some, xbin, ibin, xresult_eq, xress_nil, xress_tmp, resV, ex_some, if_true, if_false, ite_true, ite_false, reduceIte, reduceCtorEq, Nat.reduceEqDiff, Nat.reduceLT, Nat.reduceLeDiff, Int.reduceLT, Int.reduceLE, Nat.zero_add, Nat.reduceAdd, Bool.false_eq_true, decide_eq_true_eq, decide_eq_false_iff_not, true_implies, false_implies, and_true, true_and]
  refine shake_ok (pul cell t) mvs most s v1 H1 _ s1 o1.ints (by omega) hm0 hm1 (by omega) (pul_ok cell hc hc2 t (fun a ha => by have := ht a ha; omega)) (by rw [es]; exact sc.1) ?_
  rw [es]
  intro v2 H2 o2 x2
  have n1 := ints_len o2.ints
  have n2 := ints_len (Sl.ext x2 s1 : Ints H2 s (pul cell t))
  have hl2 := shd_len mvs most (pul cell t) 0 0
  rw [hl2] at n1
  simp only [ofArgs, run_seq, run_block, run_ops, run_skip, run_exit, run_ret, thenQ_normal, thenQ_exit, thenQ_ret, blockQ_normal, blockQ_exit, blockQ_ret, retQ_ret, retQ_normal, ops_nil, ops_none, got_some, ops_wT, ops_wTn, ops_wF, ops_wFn, ops_wU, dops_wT, dops_wTn, dops_wF, dops_wFn, dops_wU, run_condT, run_condF, alt2_int, altB_bool, altI_int, altBB_bool, v_min, v_max, v_not, v_neg, optEv_none, optEv_some, isSome'_none, isSome'_some, pExt0, pExt1, pExt2, Bool.false_and, Bool.true_and, Bool.not_true, Bool.not_false, cond_true, cond_false, dops_nil, dops_none, xval_call, v_mov, v_bin, v_len, v_ext, v_idxA, v_ld, v_st, v_app, v_appN, v_cvs, v_bs1, pBs1, v_slc, v_conv, v_fld, v_fldA, v_new, v_box, v_mks, v_copy, v_isnil, v_nilck, v_pick, ev, evs_nil, evs_cons, fr_get_cons, fr_put_nil, fr_put_cons, fr_put_some, fr_put_none, fr_keep_nil, fr_keep_cons, fr_has_nil, fr_has_cons, Option.bind_some, Option.map_some, xbin, ibin, xresult_eq, xress_nil, xress_tmp, resV, ex_some, if_true, if_false, ite_true, ite_false, reduceIte, reduceCtorEq, Nat.reduceEqDiff, Nat.reduceLT, Nat.reduceLeDiff, Int.reduceLT, Int.reduceLE, Nat.zero_add, Nat.reduceAdd, Bool.false_eq_true, decide_eq_true_eq, decide_eq_false_iff_not, true_implies, false_implies, and_true, true_and, n1, n2, beq_self_eq_true]
  exact hq v2 H2 _ (o2.le (by have := x1.1; omega)) (by omega) sc.1 sc.2 (x1.trans x2)
end Go.Proofs.Ytejedmocjdcdgaa.D
