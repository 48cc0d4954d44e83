/- What functions that the law reaches compute, on a heap of the run's own: the conditions stand in each theorem. -/
import Derived.Test.YtejedmocjdcdgaaGcD
set_option linter.unusedSimpArgs false
set_option linter.unusedVariables false
namespace Go.Proofs.Ytejedmocjdcdgaa.D
open Go Go.Det

theorem gc1_xc (p cell : Int) (B : Nat) (H : AH) (hB : H.get B = some ⟨[.int .i64 cell], 1, false, false⟩) (hp : p ≤ 3 * cell) (h2 : 2 ≤ cell) (h3 : cell ≤ 1000) : xc Try.prog tab 21 [.int .i64 p, .pointer (some ⟨B, 0, none⟩)] H = some (.bool false, H) := by
  refine got_xc (got_call (res := [.tmp 3]) rfl ?_)
  have e1 := pLd_box hB
  have w1 := wrI (3 * cell) (by omega) (by omega)
  have c1 : ¬ p > 3 * cell := by omega
  simp only [ofArgs, run_seq, run_block, run_ops, run_skip, run_exit, run_ret, thenQ_normal, thenQ_exit, thenQ_ret, blockQ_normal, blockQ_exit, blockQ_ret, retQ_ret, retQ_normal, ops_nil, ops_none, got_some, ops_wT, ops_wTn, ops_wF, ops_wFn, ops_wU, dops_wT, dops_wTn, dops_wF, dops_wFn, dops_wU, run_condT, run_condF, alt2_int, altB_bool, altI_int, altBB_bool, v_min, v_max, v_not, v_neg, optEv_none, optEv_some, isSome'_none, isSome'_some, pExt0, pExt1, pExt2, Bool.false_and, Bool.true_and, Bool.not_true, Bool.not_false, cond_true, cond_false, dops_nil, dops_none, xval_call, v_mov, v_bin, v_len, v_ext, v_idxA, v_ld, v_st, v_app, v_appN, v_cvs, v_bs1, pBs1, v_slc, v_conv, v_fld, v_fldA, v_new, v_box, v_mks, v_copy, v_isnil, v_nilck, v_pick, ev, evs_nil, evs_cons, fr_get_cons, fr_put_nil, fr_put_cons, fr_put_some, fr_put_none, fr_keep_nil, fr_keep_cons, fr_has_nil, fr_has_cons, Option.bind_some, Option.map_some, xbin, ibin, xresult_eq, xress_nil, xress_tmp, resV, ex_some, if_true, if_false, ite_true, ite_false, reduceIte, reduceCtorEq, Nat.reduceEqDiff, Nat.reduceLT, Nat.reduceLeDiff, Int.reduceLT, Int.reduceLE, Nat.zero_add, Nat.reduceAdd, Bool.false_eq_true, decide_eq_true_eq, decide_eq_false_iff_not, true_implies, false_implies, and_true, true_and, e1, w1, c1, decide_false]
theorem gci_l0 (cell : Int) (B : Nat) (h2 : 2 ≤ cell) (h3 : cell ≤ 1000) (s : Value) (H : AH) (hB : H.get B = some ⟨[.int .i64 cell], 1, false, false⟩) (rest : List Int) : ∀ (pre : List Int) (i N : Int) (Q : XExit → Fr → AH → Prop), Ints H s (pre ++ rest) → (∀ p ∈ rest, p ≤ 3 * cell) → pre.length + rest.length ≤ 1000000 → i = (pre.length : Int) → N = ((pre ++ rest).length : Int) →
    Q (.exit 0) [(0, s), (1, .func (.func 21) #[] #[.pointer (some ⟨B, 0, none⟩)]), (7, .int .i64 N), (8, .int .i64 N), (9, .bool false)] H →
    Run Try.prog tab (.loop xslices_IndexFunc_api_Track_int_l0) [(0, s), (1, .func (.func 21) #[] #[.pointer (some ⟨B, 0, none⟩)]), (7, .int .i64 N), (8, .int .i64 i)] H Q := by
  induction rest with
  | nil =>
    intro pre i N Q hs hp hl hi hN hq
    rw [run_loop]
    generalize hL : XCode.loop xslices_IndexFunc_api_Track_int_l0 = L
    have hiN : i = N := by simp at hN; omega
    subst hiN
    have hf : ¬ i < i := by omega
    simp only [xslices_IndexFunc_api_Track_int_l0, ofArgs, run_seq, run_block, run_ops, run_skip, run_exit, run_ret, thenQ_normal, thenQ_exit, thenQ_ret, blockQ_normal, blockQ_exit, blockQ_ret, retQ_ret, retQ_normal, ops_nil, ops_none, got_some, ops_wT, ops_wTn, ops_wF, ops_wFn, ops_wU, dops_wT, dops_wTn, dops_wF, dops_wFn, dops_wU, run_condT, run_condF, alt2_int, altB_bool, altI_int, altBB_bool, v_min, v_max, v_not, v_neg, optEv_none, optEv_some, isSome'_none, isSome'_some, pExt0, pExt1, pExt2, Bool.false_and, Bool.true_and, Bool.not_true, Bool.not_false, cond_true, cond_false, dops_nil, dops_none, xval_call, v_mov, v_bin, v_len, v_ext, v_idxA, v_ld, v_st, v_app, v_appN, v_cvs, v_bs1, pBs1, v_slc, v_conv, v_fld, v_fldA, v_new, v_box, v_mks, v_copy, v_isnil, v_nilck, v_pick, ev, evs_nil, evs_cons, fr_get_cons, fr_put_nil, fr_put_cons, fr_put_some, fr_put_none, fr_keep_nil, fr_keep_cons, fr_has_nil, fr_has_cons, Option.bind_some, Option.map_some, xbin, ibin, xresult_eq, xress_nil, xress_tmp, resV, ex_some, if_true, if_false, ite_true, ite_false, reduceIte, reduceCtorEq, Nat.reduceEqDiff, Nat.reduceLT, Nat.reduceLeDiff, Int.reduceLT, Int.reduceLE, Nat.zero_add, Nat.reduceAdd, Bool.false_eq_true, decide_eq_true_eq, decide_eq_false_iff_not, true_implies, false_implies, and_true, true_and, hf, decide_false]
    exact hq
  | cons a rest ih =>
    intro pre i N Q hs hp hl hi hN hq
    simp only [List.length_cons] at hl
    rw [run_loop]
    generalize hL : XCode.loop xslices_IndexFunc_api_Track_int_l0 = L
    have hlt : i < N := by simp at hN; omega
    have e1 := ints_idx hs i pre.length hi (by simp)
    have e2 := ints_ld hs pre.length a (by simp)
    have e4 := wrI (i + 1) (by omega) (by omega)
    have ea : (#[] : Array Value).toList ++ [.int .i64 a] ++ (#[.pointer (some ⟨B, 0, none⟩)] : Array Value).toList = [.int .i64 a, .pointer (some ⟨B, 0, none⟩)] := rfl
    have e3 := gc1_xc a cell B H hB (hp a (by simp)) h2 h3
    simp only [xslices_IndexFunc_api_Track_int_l0, ofArgs, run_seq, run_block, run_ops, run_skip, run_exit, run_ret, thenQ_normal, thenQ_exit, thenQ_ret, blockQ_normal, blockQ_exit, blockQ_ret, retQ_ret, retQ_normal, ops_nil, ops_none, got_some, ops_wT, ops_wTn, ops_wF, ops_wFn, ops_wU, dops_wT, dops_wTn, dops_wF, dops_wFn, dops_wU, run_condT, run_condF, alt2_int, altB_bool, altI_int, altBB_bool, v_min, v_max, v_not, v_neg, optEv_none, optEv_some, isSome'_none, isSome'_some, pExt0, pExt1, pExt2, Bool.false_and, Bool.true_and, Bool.not_true, Bool.not_false, cond_true, cond_false, dops_nil, dops_none, xval_call, v_mov, v_bin, v_len, v_ext, v_idxA, v_ld, v_st, v_app, v_appN, v_cvs, v_bs1, pBs1, v_slc, v_conv, v_fld, v_fldA, v_new, v_box, v_mks, v_copy, v_isnil, v_nilck, v_pick, ev, evs_nil, evs_cons, fr_get_cons, fr_put_nil, fr_put_cons, fr_put_some, fr_put_none, fr_keep_nil, fr_keep_cons, fr_has_nil, fr_has_cons, Option.bind_some, Option.map_some, xbin, ibin, xresult_eq, xress_nil, xress_tmp, resV, ex_some, if_true, if_false, ite_true, ite_false, reduceIte, reduceCtorEq, Nat.reduceEqDiff, Nat.reduceLT, Nat.reduceLeDiff, Int.reduceLT, Int.reduceLE, Nat.zero_add, Nat.reduceAdd, Bool.false_eq_true, decide_eq_true_eq, decide_eq_false_iff_not, true_implies, false_implies, and_true, true_and, hlt, decide_true, e1, e2, e4, v_callv, pCallV_func, ea, e3]
    subst hL
    exact ih (pre ++ [a]) (i + 1) N Q hs.app1 (fun x h => hp x (by simp [h])) (by simp; omega) (by simp; omega) (by simpa using hN) hq
theorem gci_xc (cell : Int) (B : Nat) (h2 : 2 ≤ cell) (h3 : cell ≤ 1000) (s : Value) (l : List Int) (H : AH) (hB : H.get B = some ⟨[.int .i64 cell], 1, false, false⟩) (hs : Ints H s l) (hp : ∀ p ∈ l, p ≤ 3 * cell) (hl : l.length ≤ 1000000) :
    xc Try.prog tab 66 [s, .func (.func 21) #[] #[.pointer (some ⟨B, 0, none⟩)]] H = some (.int .i64 (-1), H) := by
  refine got_xc (got_call (res := [.tmp 4]) rfl ?_)
  have e1 := ints_len hs
  simp only [ofArgs, run_seq, run_block, run_ops, run_skip, run_exit, run_ret, thenQ_normal, thenQ_exit, thenQ_ret, blockQ_normal, blockQ_exit, blockQ_ret, retQ_ret, retQ_normal, ops_nil, ops_none, got_some, ops_wT, ops_wTn, ops_wF, ops_wFn, ops_wU, dops_wT, dops_wTn, dops_wF, dops_wFn, dops_wU, run_condT, run_condF, alt2_int, altB_bool, altI_int, altBB_bool, v_min, v_max, v_not, v_neg, optEv_none, optEv_some, isSome'_none, isSome'_some, pExt0, pExt1, pExt2, Bool.false_and, Bool.true_and, Bool.not_true, Bool.not_false, cond_true, cond_false, dops_nil, dops_none, xval_call, v_mov, v_bin, v_len, v_ext, v_idxA, v_ld, v_st, v_app, v_appN, v_cvs, v_bs1, pBs1, v_slc, v_conv, v_fld, v_fldA, v_new, v_box, v_mks, v_copy, v_isnil, v_nilck, v_pick, ev, evs_nil, evs_cons, fr_get_cons, fr_put_nil, fr_put_cons, fr_put_some, fr_put_none, fr_keep_nil, fr_keep_cons, fr_has_nil, fr_has_cons, Option.bind_some, Option.map_some, xbin, ibin, xresult_eq, xress_nil, xress_tmp, resV, ex_some, if_true, if_false, ite_true, ite_false, reduceIte, reduceCtorEq, Nat.reduceEqDiff, Nat.reduceLT, Nat.reduceLeDiff, Int.reduceLT, Int.reduceLE, Nat.zero_add, Nat.reduceAdd, Bool.false_eq_true, decide_eq_true_eq, decide_eq_false_iff_not, true_implies, false_implies, and_true, true_and, e1]
  refine gci_l0 cell B h2 h3 s H hB l [] 0 _ _ hs hp (by simpa using hl) (by simp) (by simp) ?_
  simp only [ofArgs, run_seq, run_block, run_ops, run_skip, run_exit, run_ret, thenQ_normal, thenQ_exit, thenQ_ret, blockQ_normal, blockQ_exit, blockQ_ret, retQ_ret, retQ_normal, ops_nil, ops_none, got_some, ops_wT, ops_wTn, ops_wF, ops_wFn, ops_wU, dops_wT, dops_wTn, dops_wF, dops_wFn, dops_wU, run_condT, run_condF, alt2_int, altB_bool, altI_int, altBB_bool, v_min, v_max, v_not, v_neg, optEv_none, optEv_some, isSome'_none, isSome'_some, pExt0, pExt1, pExt2, Bool.false_and, Bool.true_and, Bool.not_true, Bool.not_false, cond_true, cond_false, dops_nil, dops_none, xval_call, v_mov, v_bin, v_len, v_ext, v_idxA, v_ld, v_st, v_app, v_appN, v_cvs, v_bs1, pBs1, v_slc, v_conv, v_fld, v_fldA, v_new, v_box, v_mks, v_copy, v_isnil, v_nilck, v_pick, ev, evs_nil, evs_cons, fr_get_cons, fr_put_nil, fr_put_cons, fr_put_some, fr_put_none, fr_keep_nil, fr_keep_cons, fr_has_nil, fr_has_cons, Option.bind_some, Option.map_some, xbin, ibin, xresult_eq, xress_nil, xress_tmp, resV, ex_some, if_true, if_false, ite_true, ite_false, reduceIte, reduceCtorEq, Nat.reduceEqDiff, Nat.reduceLT, Nat.reduceLeDiff, Int.reduceLT, Int.reduceLE, Nat.zero_add, Nat.reduceAdd, Bool.false_eq_true, decide_eq_true_eq, decide_eq_false_iff_not, true_implies, false_implies, and_true, true_and]
theorem gcc_xc (cell : Int) (B : Nat) (h2 : 2 ≤ cell) (h3 : cell ≤ 1000) (s : Value) (l : List Int) (H : AH) (hB : H.get B = some ⟨[.int .i64 cell], 1, false, false⟩) (hs : Ints H s l) (hp : ∀ p ∈ l, p ≤ 3 * cell) (hl : l.length ≤ 1000000) :
    xc Try.prog tab 20 [s, .func (.func 21) #[] #[.pointer (some ⟨B, 0, none⟩)]] H = some (.bool false, H) := by
  refine got_xc (got_call (res := [.tmp 4]) rfl ?_)
  have e1 := gci_xc cell B h2 h3 s l H hB hs hp hl
  simp only [ofArgs, run_seq, run_block, run_ops, run_skip, run_exit, run_ret, thenQ_normal, thenQ_exit, thenQ_ret, blockQ_normal, blockQ_exit, blockQ_ret, retQ_ret, retQ_normal, ops_nil, ops_none, got_some, ops_wT, ops_wTn, ops_wF, ops_wFn, ops_wU, dops_wT, dops_wTn, dops_wF, dops_wFn, dops_wU, run_condT, run_condF, alt2_int, altB_bool, altI_int, altBB_bool, v_min, v_max, v_not, v_neg, optEv_none, optEv_some, isSome'_none, isSome'_some, pExt0, pExt1, pExt2, Bool.false_and, Bool.true_and, Bool.not_true, Bool.not_false, cond_true, cond_false, dops_nil, dops_none, xval_call, v_mov, v_bin, v_len, v_ext, v_idxA, v_ld, v_st, v_app, v_appN, v_cvs, v_bs1, pBs1, v_slc, v_conv, v_fld, v_fldA, v_new, v_box, v_mks, v_copy, v_isnil, v_nilck, v_pick, ev, evs_nil, evs_cons, fr_get_cons, fr_put_nil, fr_put_cons, fr_put_some, fr_put_none, fr_keep_nil, fr_keep_cons, fr_has_nil, fr_has_cons, Option.bind_some, Option.map_some, xbin, ibin, xresult_eq, xress_nil, xress_tmp, resV, ex_some, if_true, if_false, ite_true, ite_false, reduceIte, reduceCtorEq, Nat.reduceEqDiff, Nat.reduceLT, Nat.reduceLeDiff, Int.reduceLT, Int.reduceLE, Nat.zero_add, Nat.reduceAdd, Bool.false_eq_true, decide_eq_true_eq, decide_eq_false_iff_not, true_implies, false_implies, and_true, true_and, e1]
  rfl

theorem expand_len' (l : List Int) (h : ∀ g ∈ l, 1 ≤ g) : ((expand l).length : Int) = l.sum := by
  induction l with
  | nil => rfl
  | cons g l ih =>
    have hg := h g (by simp)
    have := ih (fun x hx => h x (by simp [hx]))
    simp only [expand, List.length_append, List.length_replicate, List.length_cons, List.sum_cons]
    omega
theorem gaps_sum (q : List Bool) (h : (gaps q).2 = 0) : (gaps q).1.sum = (q.length : Int) := by
  have := expand_len' (gaps q).1 (gaps_pos q)
  have e := expand_gaps q
  rw [h] at e
  simp at e
  rw [e] at this
  omega
theorem pul_le (cell : Int) (h2 : 2 ≤ cell) (l : List Int) (hl : ∀ x ∈ l, x ≤ 3) : ∀ p ∈ pul cell l, p ≤ 3 * cell := by
  intro p hp
  obtain ⟨x, hx, rfl⟩ := List.mem_map.1 hp
  exact Int.mul_le_mul_of_nonneg_right (hl x hx) (by omega)

set_option maxHeartbeats 4000000 in
theorem GcrBack_ok (l by_ : List Int) (cell0 : Int) (s1 s2 : Value) (H : AH) (hsa : Ints H s1 l) (hsb : Ints H s2 by_) (hby : by_.length ≤ 17592186044416) : Got (xc Try.prog tab 3 [s1, s2, .int .i64 cell0] H) fun v H' => v = .bool true := by
  refine got_call (res := [.tmp 6]) rfl ?_
  have vci : vcells (.int .i64 cell0) = [.int .i64 cell0] := rfl
  simp only [ofArgs, run_seq, run_block, run_ops, run_skip, run_exit, run_ret, thenQ_normal, thenQ_exit, thenQ_ret, blockQ_normal, blockQ_exit, blockQ_ret, retQ_ret, retQ_normal, ops_nil, ops_none, got_some, ops_wT, ops_wTn, ops_wF, ops_wFn, ops_wU, dops_wT, dops_wTn, dops_wF, dops_wFn, dops_wU, run_condT, run_condF, alt2_int, altB_bool, altI_int, altBB_bool, v_min, v_max, v_not, v_neg, optEv_none, optEv_some, isSome'_none, isSome'_some, pExt0, pExt1, pExt2, Bool.false_and, Bool.true_and, Bool.not_true, Bool.not_false, cond_true, cond_false, dops_nil, dops_none, xval_call, v_mov, v_bin, v_len, v_ext, v_idxA, v_ld, v_st, v_app, v_appN, v_cvs, v_bs1, pBs1, v_slc, v_conv, v_fld, v_fldA, v_new, v_box, v_mks, v_copy, v_isnil, v_nilck, v_pick, ev, evs_nil, evs_cons, fr_get_cons, fr_put_nil, fr_put_cons, fr_put_some, fr_put_none, fr_keep_nil, fr_keep_cons, fr_has_nil, fr_has_cons, Option.bind_some, Option.map_some, xbin, ibin, xresult_eq, xress_nil, xress_tmp, resV, ex_some, if_true, if_false, ite_true, ite_false, reduceIte, reduceCtorEq, Nat.reduceEqDiff, Nat.reduceLT, Nat.reduceLeDiff, Int.reduceLT, Int.reduceLE, Nat.zero_add, Nat.reduceAdd, Bool.false_eq_true, decide_eq_true_eq, decide_eq_false_iff_not, true_implies, false_implies, and_true, true_and, vci]
  have x0 : HExt H (H.push ⟨[.int .i64 cell0], 1, false, false⟩) := hext_push _ _
  have g0 : (H.push ⟨[.int .i64 cell0], 1, false, false⟩).get H.n = some ⟨[.int .i64 cell0], 1, false, false⟩ := by rw [AH.get_push, if_pos rfl]
  have n0 : (H.push ⟨[.int .i64 cell0], 1, false, false⟩).n = H.n + 1 := rfl
  generalize H.push ⟨[.int .i64 cell0], 1, false, false⟩ = H0 at x0 g0 n0
  refine some_ok l 60 (by omega) (by omega) s1 H0 _ (Sl.ext x0 hsa) ?_
  intro va H1 oa x1
  have la := someB_len l 60 (by omega) (by omega)
  have ba := someB_b8 l 60
  generalize someB l 60 = a at oa la ba
  have hc0 := Int.emod_nonneg cell0 (by omega : (999 : Int) ≠ 0)
  have hc1 := Int.emod_lt_of_pos cell0 (by omega : (0 : Int) < 999)
  have hn1 := x1.1
  have g1 : H1.get H.n = some ⟨[.int .i64 cell0], 1, false, false⟩ := by rw [x1.2 _ (by omega)]; exact g0
  have e1 := pLd_box g1
  have q1 := below_xc cell0 999 H1 (by omega) (by omega)
  have w1 := wrI (2 + cell0 % 999) (by omega) (by omega)
  have e2 := pSt_box (u := .int .i64 (2 + cell0 % 999)) g1 rfl rfl
  simp only [ofArgs, run_seq, run_block, run_ops, run_skip, run_exit, run_ret, thenQ_normal, thenQ_exit, thenQ_ret, blockQ_normal, blockQ_exit, blockQ_ret, retQ_ret, retQ_normal, ops_nil, ops_none, got_some, ops_wT, ops_wTn, ops_wF, ops_wFn, ops_wU, dops_wT, dops_wTn, dops_wF, dops_wFn, dops_wU, run_condT, run_condF, alt2_int, altB_bool, altI_int, altBB_bool, v_min, v_max, v_not, v_neg, optEv_none, optEv_some, isSome'_none, isSome'_some, pExt0, pExt1, pExt2, Bool.false_and, Bool.true_and, Bool.not_true, Bool.not_false, cond_true, cond_false, dops_nil, dops_none, xval_call, v_mov, v_bin, v_len, v_ext, v_idxA, v_ld, v_st, v_app, v_appN, v_cvs, v_bs1, pBs1, v_slc, v_conv, v_fld, v_fldA, v_new, v_box, v_mks, v_copy, v_isnil, v_nilck, v_pick, ev, evs_nil, evs_cons, fr_get_cons, fr_put_nil, fr_put_cons, fr_put_some, fr_put_none, fr_keep_nil, fr_keep_cons, fr_has_nil, fr_has_cons, Option.bind_some, Option.map_some, xbin, ibin, xresult_eq, xress_nil, xress_tmp, resV, ex_some, if_true, if_false, ite_true, ite_false, reduceIte, reduceCtorEq, Nat.reduceEqDiff, Nat.reduceLT, Nat.reduceLeDiff, Int.reduceLT, Int.reduceLE, Nat.zero_add, Nat.reduceAdd, Bool.false_eq_true, decide_eq_true_eq, decide_eq_false_iff_not, true_implies, false_implies, and_true, true_and, e1, q1, w1, e2]
  have h2 : 2 ≤ 2 + cell0 % 999 := by omega
  have h3 : 2 + cell0 % 999 ≤ 1000 := by omega
  generalize 2 + cell0 % 999 = cell at h2 h3
  have k2 : Keep H.n H1 (H1.set H.n ⟨[.int .i64 cell], 1, false, false⟩) := ⟨Nat.le_refl _, fun b hb => by rw [AH.get_set, if_neg (by omega)]⟩
  have A2 : Byts (H1.set H.n ⟨[.int .i64 cell], 1, false, false⟩) va a := by
    refine Sl.same oa.1 (Nat.le_refl _) fun b hb => ?_
    have := oa.2 b
    have hb' : H.n + 1 ≤ b := by
      obtain ⟨o, l, c, e⟩ := hb
      have := (oa.2 b o l c e).1
      omega
    rw [AH.get_set, if_neg (by omega)]
  have g2 : (H1.set H.n ⟨[.int .i64 cell], 1, false, false⟩).get H.n = some ⟨[.int .i64 cell], 1, false, false⟩ := by rw [AH.get_set, if_pos rfl]
  have n2 : (H1.set H.n ⟨[.int .i64 cell], 1, false, false⟩).n = H1.n := rfl
  generalize (H1.set H.n ⟨[.int .i64 cell], 1, false, false⟩) = H2 at k2 A2 g2 n2
  have e3 := pLd_box g2
  simp only [ofArgs, run_seq, run_block, run_ops, run_skip, run_exit, run_ret, thenQ_normal, thenQ_exit, thenQ_ret, blockQ_normal, blockQ_exit, blockQ_ret, retQ_ret, retQ_normal, ops_nil, ops_none, got_some, ops_wT, ops_wTn, ops_wF, ops_wFn, ops_wU, dops_wT, dops_wTn, dops_wF, dops_wFn, dops_wU, run_condT, run_condF, alt2_int, altB_bool, altI_int, altBB_bool, v_min, v_max, v_not, v_neg, optEv_none, optEv_some, isSome'_none, isSome'_some, pExt0, pExt1, pExt2, Bool.false_and, Bool.true_and, Bool.not_true, Bool.not_false, cond_true, cond_false, dops_nil, dops_none, xval_call, v_mov, v_bin, v_len, v_ext, v_idxA, v_ld, v_st, v_app, v_appN, v_cvs, v_bs1, pBs1, v_slc, v_conv, v_fld, v_fldA, v_new, v_box, v_mks, v_copy, v_isnil, v_nilck, v_pick, ev, evs_nil, evs_cons, fr_get_cons, fr_put_nil, fr_put_cons, fr_put_some, fr_put_none, fr_keep_nil, fr_keep_cons, fr_has_nil, fr_has_cons, Option.bind_some, Option.map_some, xbin, ibin, xresult_eq, xress_nil, xress_tmp, resV, ex_some, if_true, if_false, ite_true, ite_false, reduceIte, reduceCtorEq, Nat.reduceEqDiff, Nat.reduceLT, Nat.reduceLeDiff, Int.reduceLT, Int.reduceLE, Nat.zero_add, Nat.reduceAdd, Bool.false_eq_true, decide_eq_true_eq, decide_eq_false_iff_not, true_implies, false_implies, and_true, true_and, e3]
  refine gcrWrite_ok a cell va H2 _ A2 ba (by omega) h2 h3 ?_
  intro vt H3 ot x3
  have gb := gfull_gb a ba
  have glen := (gaps_len (gfull a)).1
  have hlg : (gfull a).length = 10 * a.length + 1 := by simp [gfull, qb_len]
  have gsum := gaps_sum (gfull a) gb.2
  generalize hG : (gaps (gfull a)).1 = G at gb glen gsum ot
  have hn3 := x3.1
  have g3 : H3.get H.n = some ⟨[.int .i64 cell], 1, false, false⟩ := by rw [x3.2 _ (by omega)]; exact g2
  have e4 := pLd_box g3
  simp only [ofArgs, run_seq, run_block, run_ops, run_skip, run_exit, run_ret, thenQ_normal, thenQ_exit, thenQ_ret, blockQ_normal, blockQ_exit, blockQ_ret, retQ_ret, retQ_normal, ops_nil, ops_none, got_some, ops_wT, ops_wTn, ops_wF, ops_wFn, ops_wU, dops_wT, dops_wTn, dops_wF, dops_wFn, dops_wU, run_condT, run_condF, alt2_int, altB_bool, altI_int, altBB_bool, v_min, v_max, v_not, v_neg, optEv_none, optEv_some, isSome'_none, isSome'_some, pExt0, pExt1, pExt2, Bool.false_and, Bool.true_and, Bool.not_true, Bool.not_false, cond_true, cond_false, dops_nil, dops_none, xval_call, v_mov, v_bin, v_len, v_ext, v_idxA, v_ld, v_st, v_app, v_appN, v_cvs, v_bs1, pBs1, v_slc, v_conv, v_fld, v_fldA, v_new, v_box, v_mks, v_copy, v_isnil, v_nilck, v_pick, ev, evs_nil, evs_cons, fr_get_cons, fr_put_nil, fr_put_cons, fr_put_some, fr_put_none, fr_keep_nil, fr_keep_cons, fr_has_nil, fr_has_cons, Option.bind_some, Option.map_some, xbin, ibin, xresult_eq, xress_nil, xress_tmp, resV, ex_some, if_true, if_false, ite_true, ite_false, reduceIte, reduceCtorEq, Nat.reduceEqDiff, Nat.reduceLT, Nat.reduceLeDiff, Int.reduceLT, Int.reduceLE, Nat.zero_add, Nat.reduceAdd, Bool.false_eq_true, decide_eq_true_eq, decide_eq_false_iff_not, true_implies, false_implies, and_true, true_and, e4]
  have k03 : Keep H.n H0 H3 := Keep.trans (x1.keep (by omega)) (Keep.trans k2 (x3.keep (by omega)))
  have S3 : Ints H3 s2 by_ := Sl.ext (Keep.trans (n0 := H.n) x0 k03) hsb
  refine shaken_ok G by_ cell vt s2 H3 _ ot.ints S3 hby (by omega) h2 h3 (fun x hx => by have := gb.1 x hx; omega) ?_
  intro vu H4 w ou hlen hok hcel x4
  have hn4 := x4.1
  have g4 : H4.get H.n = some ⟨[.int .i64 cell], 1, false, false⟩ := by rw [x4.2 _ (by omega)]; exact g3
  have e5 := pLd_box g4
  simp only [ofArgs, run_seq, run_block, run_ops, run_skip, run_exit, run_ret, thenQ_normal, thenQ_exit, thenQ_ret, blockQ_normal, blockQ_exit, blockQ_ret, retQ_ret, retQ_normal, ops_nil, ops_none, got_some, ops_wT, ops_wTn, ops_wF, ops_wFn, ops_wU, dops_wT, dops_wTn, dops_wF, dops_wFn, dops_wU, run_condT, run_condF, alt2_int, altB_bool, altI_int, altBB_bool, v_min, v_max, v_not, v_neg, optEv_none, optEv_some, isSome'_none, isSome'_some, pExt0, pExt1, pExt2, Bool.false_and, Bool.true_and, Bool.not_true, Bool.not_false, cond_true, cond_false, dops_nil, dops_none, xval_call, v_mov, v_bin, v_len, v_ext, v_idxA, v_ld, v_st, v_app, v_appN, v_cvs, v_bs1, pBs1, v_slc, v_conv, v_fld, v_fldA, v_new, v_box, v_mks, v_copy, v_isnil, v_nilck, v_pick, ev, evs_nil, evs_cons, fr_get_cons, fr_put_nil, fr_put_cons, fr_put_some, fr_put_none, fr_keep_nil, fr_keep_cons, fr_has_nil, fr_has_cons, Option.bind_some, Option.map_some, xbin, ibin, xresult_eq, xress_nil, xress_tmp, resV, ex_some, if_true, if_false, ite_true, ite_false, reduceIte, reduceCtorEq, Nat.reduceEqDiff, Nat.reduceLT, Nat.reduceLeDiff, Int.reduceLT, Int.reduceLE, Nat.zero_add, Nat.reduceAdd, Bool.false_eq_true, decide_eq_true_eq, decide_eq_false_iff_not, true_implies, false_implies, and_true, true_and, e5]
  refine gcrRead_ok a w cell vu H4 _ ou.ints ba (by omega) h2 h3 hok (by rw [hcel, hG]) ?_
  intro vb H5 ob x5
  have hn5 := x5.1
  have g5 : H5.get H.n = some ⟨[.int .i64 cell], 1, false, false⟩ := by rw [x5.2 _ (by omega)]; exact g4
  have e6 := pLd_box g5
  have A5 : Byts H5 va a := Sl.ext (x3.trans (x4.trans x5)) A2
  have T5 : Ints H5 vt (pul cell G) := Sl.ext (x4.trans x5) ot.ints
  have r1 := equalB_xc a a va vb H5 A5 ob.1 (by omega) (by omega)
  have okt := pul_ok cell h2 h3 G (fun x hx => by have := gb.1 x hx; omega)
  have r2 := total_xc _ vt H5 T5 (by simp [pul]; omega) okt
  rw [pul_sum, gsum, hlg] at r2
  have r3 := gcc_xc cell H.n h2 h3 vt _ H5 g5 T5 (pul_le cell h2 G (fun x hx => (gb.1 x hx).2)) (by simp [pul]; omega)
  have n1 := byts_len' A5
  have w2 := wrI (10 * (a.length : Int)) (by omega) (by omega)
  have w3 := wrI (10 * (a.length : Int) + 1) (by omega) (by omega)
  have hm1 : 0 * cell ≤ (10 * (a.length : Int) + 1) * cell := Int.mul_le_mul_of_nonneg_right (by omega) (by omega)
  have hm2 : (10 * (a.length : Int) + 1) * cell ≤ 1000 * cell := Int.mul_le_mul_of_nonneg_right (by omega) (by omega)
  have hm3 : 1 * cell ≤ (10 * (a.length : Int) + 1) * cell := Int.mul_le_mul_of_nonneg_right (by omega) (by omega)
  have w4 := wrI ((10 * (a.length : Int) + 1) * cell) (by omega) (by omega)
  have e7 : ((10 * a.length + 1 : Nat) : Int) * cell = (10 * (a.length : Int) + 1) * cell := by rw [Int.natCast_add, Int.natCast_mul]; rfl
  rw [e7] at r2
  have c1 : (10 * (a.length : Int) + 1) * cell > 0 := by omega
  simp only [ofArgs, run_seq, run_block, run_ops, run_skip, run_exit, run_ret, thenQ_normal, thenQ_exit, thenQ_ret, blockQ_normal, blockQ_exit, blockQ_ret, retQ_ret, retQ_normal, ops_nil, ops_none, got_some, ops_wT, ops_wTn, ops_wF, ops_wFn, ops_wU, dops_wT, dops_wTn, dops_wF, dops_wFn, dops_wU, run_condT, run_condF, alt2_int, altB_bool, altI_int, altBB_bool, v_min, v_max, v_not, v_neg, optEv_none, optEv_some, isSome'_none, isSome'_some, pExt0, pExt1, pExt2, Bool.false_and, Bool.true_and, Bool.not_true, Bool.not_false, cond_true, cond_false, dops_nil, dops_none, xval_call, v_mov, v_bin, v_len, v_ext, v_idxA, v_ld, v_st, v_app, v_appN, v_cvs, v_bs1, pBs1, v_slc, v_conv, v_fld, v_fldA, v_new, v_box, v_mks, v_copy, v_isnil, v_nilck, v_pick, ev, evs_nil, evs_cons, fr_get_cons, fr_put_nil, fr_put_cons, fr_put_some, fr_put_none, fr_keep_nil, fr_keep_cons, fr_has_nil, fr_has_cons, Option.bind_some, Option.map_some, xbin, ibin, xresult_eq, xress_nil, xress_tmp, resV, ex_some, if_true, if_false, ite_true, ite_false, reduceIte, reduceCtorEq, Nat.reduceEqDiff, Nat.reduceLT, Nat.reduceLeDiff, Int.reduceLT, Int.reduceLE, Nat.zero_add, Nat.reduceAdd, Bool.false_eq_true, decide_eq_true_eq, decide_eq_false_iff_not, true_implies, false_implies, and_true, true_and]
  refine run_dopsS _ _ _ _ _ ?_
  simp only [ofArgs, run_seq, run_block, run_ops, run_skip, run_exit, run_ret, thenQ_normal, thenQ_exit, thenQ_ret, blockQ_normal, blockQ_exit, blockQ_ret, retQ_ret, retQ_normal, ops_nil, ops_none, got_some, ops_wT, ops_wTn, ops_wF, ops_wFn, ops_wU, dops_wT, dops_wTn, dops_wF, dops_wFn, dops_wU, run_condT, run_condF, alt2_int, altB_bool, altI_int, altBB_bool, v_min, v_max, v_not, v_neg, optEv_none, optEv_some, isSome'_none, isSome'_some, pExt0, pExt1, pExt2, Bool.false_and, Bool.true_and, Bool.not_true, Bool.not_false, cond_true, cond_false, dops_nil, dops_none, xval_call, v_mov, v_bin, v_len, v_ext, v_idxA, v_ld, v_st, v_app, v_appN, v_cvs, v_bs1, pBs1, v_slc, v_conv, v_fld, v_fldA, v_new, v_box, v_mks, v_copy, v_isnil, v_nilck, v_pick, ev, evs_nil, evs_cons, fr_get_cons, fr_put_nil, fr_put_cons, fr_put_some, fr_put_none, fr_keep_nil, fr_keep_cons, fr_has_nil, fr_has_cons, Option.bind_some, Option.map_some, xbin, ibin, xresult_eq, xress_nil, xress_tmp, resV, ex_some, if_true, if_false, ite_true, ite_false, reduceIte, reduceCtorEq, Nat.reduceEqDiff, Nat.reduceLT, Nat.reduceLeDiff, Int.reduceLT, Int.reduceLE, Nat.zero_add, Nat.reduceAdd, Bool.false_eq_true, decide_eq_true_eq, decide_eq_false_iff_not, true_implies, false_implies, and_true, true_and, dr_nil, dr_cons, hs0, hs1, hs2, hs3, addC_nil, addC_cons, stabAll_nil, stabAll_cons, stab1_nil, stab1_cons, hat_cons, xval_wT, xval_wTn, xval_wF, xval_wFn, veq_int, veq_bool, veq_ptr, veq_sl, v_mkf, e6, r1, r2, r3, n1, w2, w3, w4, c1, decide_true, beq_self_eq_true]
end Go.Proofs.Ytejedmocjdcdgaa.D
