/- What functions that the law reaches compute, on a heap of the run's own: the conditions stand in each theorem. -/
import Derived.Test.YtkhjmmidaihbhaaFmA
set_option linter.unusedSimpArgs false
set_option linter.unusedVariables false
namespace Go.Proofs.Ytkhjmmidaihbhaa.D
open Go Go.Det

theorem shr_step (c k : Nat) : 2 * (c >>> (k + 1)) + (c.testBit k).toNat = c >>> k := by
  rw [Nat.shiftRight_succ, Nat.testBit_eq_decide_div_mod_eq, ← Nat.shiftRight_eq_div_pow]
  generalize c >>> k = x
  rcases Nat.mod_two_eq_zero_or_one x with h | h <;> simp [h] <;> omega
theorem shr_lt2 (c k : Nat) (hc : c < 256) : c >>> (k + 1) < 128 := by
  rw [Nat.shiftRight_eq_div_pow, Nat.pow_succ]
  have : c / (2 ^ k * 2) ≤ c / 2 := Nat.div_le_div_left (by have := Nat.pow_pos (n := k) (by omega : 0 < 2); omega) (by omega)
  omega
theorem fmr_bits (n0 : Nat) (s : Value) (c : Nat) (hc : c < 256) (suf : List Int) (k : Nat) : ∀ (pre out : List Int) (v : Value) (H : AH) (i : Int) (Q : XExit → Fr → AH → Prop), Ints H s (pre ++ (fmb c (k + 1) ++ suf)) → OwnB n0 H v out → n0 ≤ H.n → k ≤ 7 → pre.length + 2 * (k + 1) + suf.length ≤ 100000 → out.length ≤ 100000 → i = (pre.length : Int) →
    (∀ v' H', OwnB n0 H' v' (out ++ [(c : Int)]) → Keep n0 H H' → Run Try.prog tab (.loop xfm_Read_l0) [(6, s), (8, v'), (9, .int .i64 0), (10, .int .i64 0), (11, .int .i64 (((pre ++ fmb c (k + 1)).length : Nat) : Int))] H' Q) →
    Run Try.prog tab (.loop xfm_Read_l0) [(6, s), (8, v), (9, .int .i64 ((c >>> (k + 1) : Nat) : Int)), (10, .int .i64 ((7 - k : Nat) : Int)), (11, .int .i64 i)] H Q := by
  induction k with
  | zero =>
    intro pre out v H i Q hs ho hn hk hl hol hi hq
    have e : fmb c 1 = (if c.testBit 0 then [1, 1] else [2]) := by simp [fmb]
    rw [e] at hs hq
    refine fmr_step n0 s v pre suf out (c.testBit 0) (c >>> (0 + 1)) 7 H i Q hs ho hn (by omega) hol hi (by omega) (shr_lt2 c 0 hc) (fun h => by omega) ?_
    intro _
    rw [shr_step c 0, Nat.shiftRight_zero]
    exact hq
  | succ k ih =>
    intro pre out v H i Q hs ho hn hk hl hol hi hq
    have e : fmb c (k + 1 + 1) = (if c.testBit (k + 1) then [1, 1] else [2]) ++ fmb c (k + 1) := rfl
    rw [e, List.append_assoc] at hs
    have hfl := fmb_len c (k + 1)
    refine fmr_step n0 s v pre (fmb c (k + 1) ++ suf) out (c.testBit (k + 1)) (c >>> (k + 1 + 1)) (7 - (k + 1)) H i Q hs ho hn (by simp; omega) hol hi (by omega) (shr_lt2 c (k + 1) hc) ?_ (fun h => by omega)
    intro _
    rw [shr_step c (k + 1), show 7 - (k + 1) + 1 = 7 - k by omega]
    refine ih (pre ++ (if c.testBit (k + 1) then [1, 1] else [2])) out v H _ Q (by rw [List.append_assoc]; exact hs) ho hn (by omega) ?_ hol rfl ?_
    · rw [List.length_append]; split <;> simp <;> omega
    · intro v' H' o' k'
      have := hq v' H' o' k'
      rw [e, ← List.append_assoc] at this
      exact this
theorem fmr_all (n0 : Nat) (s : Value) (rest : List Int) : ∀ (pre out : List Int) (v : Value) (H : AH) (i : Int) (Q : XExit → Fr → AH → Prop), Ints H s (pre ++ fmw rest) → (∀ b, inB s b → b < n0) → B8 rest → OwnB n0 H v out → n0 ≤ H.n → pre.length + 16 * rest.length ≤ 100000 → out.length + rest.length ≤ 100000 → i = (pre.length : Int) →
    (∀ v' H' j, OwnB n0 H' v' (out ++ rest) → Keep n0 H H' → Q (.exit 0) [(6, s), (8, v'), (9, .int .i64 0), (10, .int .i64 0), (11, .int .i64 j), (33, .bool false)] H') →
    Run Try.prog tab (.loop xfm_Read_l0) [(6, s), (8, v), (9, .int .i64 0), (10, .int .i64 0), (11, .int .i64 i)] H Q := by
  induction rest with
  | nil =>
    intro pre out v H i Q hs hsb hb ho hn hl hol hi hq
    rw [run_loop]
    generalize hL : XCode.loop xfm_Read_l0 = L
    have e1 := ints_len hs
    have hf : ¬ i < ((pre ++ fmw []).length : Int) := by simp [fmw]; omega
    simp only [xfm_Read_l0, ofArgs, run_seq, run_block, run_ops, run_skip, run_exit, run_ret, thenQ_normal, thenQ_exit, thenQ_ret, blockQ_normal, blockQ_exit, blockQ_ret, retQ_ret, retQ_normal, ops_nil, ops_none, got_some, ops_wT, ops_wTn, ops_wF, ops_wFn, ops_wU, dops_wT, dops_wTn, dops_wF, dops_wFn, dops_wU, run_condT, run_condF, alt2_int, altB_bool, altI_int, altBB_bool, v_min, v_max, v_not, v_neg, optEv_none, optEv_some, isSome'_none, isSome'_some, pExt0, pExt1, pExt2, Bool.false_and, Bool.true_and, Bool.not_true, Bool.not_false, cond_true, cond_false, dops_nil, dops_none, xval_call, v_mov, v_bin, v_len, v_ext, v_idxA, v_ld, v_st, v_app, v_appN, v_cvs, v_bs1, pBs1, v_slc, v_conv, v_fld, v_fldA, v_new, v_box, v_mks, v_copy, v_isnil, v_nilck, v_pick, ev, evs_nil, evs_cons, fr_get_cons, fr_put_nil, fr_put_cons, fr_put_some, fr_put_none, fr_keep_nil, fr_keep_cons, fr_has_nil, fr_has_cons, Option.bind_some, Option.map_some, xbin, ibin, xresult_eq, xress_nil, xress_tmp, resV, ex_some, if_true, if_false, ite_true, ite_false, reduceIte, reduceCtorEq, Nat.reduceEqDiff, Nat.reduceLT, Nat.reduceLeDiff, Int.reduceLT, Int.reduceLE, Nat.zero_add, Nat.reduceAdd, Bool.false_eq_true, decide_eq_true_eq, decide_eq_false_iff_not, true_implies, false_implies, and_true, true_and, e1, hf, decide_false]
    exact hq v H i (by simpa using ho) (.refl _ _)
  | cons c rest ih =>
    intro pre out v H i Q hs hsb hb ho hn hl hol hi hq
    simp only [List.length_cons] at hl hol
    have hc := hb c (by simp)
    obtain ⟨c, rfl⟩ : ∃ k : Nat, c = (k : Int) := ⟨c.toNat, by omega⟩
    rw [fmw_cons, Int.toNat_natCast] at hs
    have h8 : c >>> 8 = 0 := by rw [Nat.shiftRight_eq_div_pow]; omega
    have hfl := fmb_len c 8
    have hwl := fmw_len rest
    have := fmr_bits n0 s c (by omega) (fmw rest) 7 pre out v H i Q hs ho hn (by omega) (by omega) (by omega) hi ?_
    · rw [h8] at this
      exact this
    · intro v' H' o' k'
      refine ih (pre ++ fmb c 8) (out ++ [(c : Int)]) v' H' _ Q (by rw [List.append_assoc]; exact Ints.keep hs k' hsb) hsb (fun b h => hb b (by simp [h])) o' (by have := k'.1; omega) (by simp; omega) (by simp; omega) rfl ?_
      intro v2 H2 j o2 k2
      exact hq v2 H2 j (by simpa using o2) (k'.trans k2)

theorem fmRead_ok (a w : List Int) (cell : Int) (s : Value) (H : AH) (Q : Value → AH → Prop) (hs : Ints H s w) (hb : B8 a) (hl : a.length ≤ 2000) (h2 : 2 ≤ cell) (h3 : cell ≤ 1000) (hok : Ok w) (hw : w.map (celOf cell) = 1 :: fmw a)
    (hq : ∀ v H', OwnB H.n H' v a → HExt H H' → Q (.tuple [v, .int .i64 0].toArray) H') : Got (xc Try.prog tab 50 [s, .int .i64 cell] H) Q := by
  refine got_call (res := [.tmp 4, .tmp 5]) rfl ?_
  have hwl := fmw_len a
  have hlw : w.length ≤ 40000 := by
    have := congrArg List.length hw
    simp at this; omega
  simp only [ofArgs, run_seq, run_block, run_ops, run_skip, run_exit, run_ret, thenQ_normal, thenQ_exit, thenQ_ret, blockQ_normal, blockQ_exit, blockQ_ret, retQ_ret, retQ_normal, ops_nil, ops_none, got_some, ops_wT, ops_wTn, ops_wF, ops_wFn, ops_wU, dops_wT, dops_wTn, dops_wF, dops_wFn, dops_wU, run_condT, run_condF, alt2_int, altB_bool, altI_int, altBB_bool, v_min, v_max, v_not, v_neg, optEv_none, optEv_some, isSome'_none, isSome'_some, pExt0, pExt1, pExt2, Bool.false_and, Bool.true_and, Bool.not_true, Bool.not_false, cond_true, cond_false, dops_nil, dops_none, xval_call, v_mov, v_bin, v_len, v_ext, v_idxA, v_ld, v_st, v_app, v_appN, v_cvs, v_bs1, pBs1, v_slc, v_conv, v_fld, v_fldA, v_new, v_box, v_mks, v_copy, v_isnil, v_nilck, v_pick, ev, evs_nil, evs_cons, fr_get_cons, fr_put_nil, fr_put_cons, fr_put_some, fr_put_none, fr_keep_nil, fr_keep_cons, fr_has_nil, fr_has_cons, Option.bind_some, Option.map_some, xbin, ibin, xresult_eq, xress_nil, xress_tmp, resV, ex_some, if_true, if_false, ite_true, ite_false, reduceIte, reduceCtorEq, Nat.reduceEqDiff, Nat.reduceLT, Nat.reduceLeDiff, Int.reduceLT, Int.reduceLE, Nat.zero_add, Nat.reduceAdd, Bool.false_eq_true, decide_eq_true_eq, decide_eq_false_iff_not, true_implies, false_implies, and_true, true_and]
  refine cells_ok w cell 2 s H _ hs hlw h2 h3 (by omega) hok ?_ ?_
  · intro p hp
    have h1 : celOf cell p ∈ w.map (celOf cell) := List.mem_map_of_mem hp
    rw [hw] at h1
    rcases List.mem_cons.1 h1 with h | h
    · omega
    · exact fmw_12 a _ h
  rw [hw]
  intro v1 H1 o1 x1
  have e1 := ints_len o1.ints
  have e2 := ints_idx o1.ints 0 0 rfl (by simp)
  have e3 := ints_ld o1.ints 0 1 rfl
  have c1 : (((1 :: fmw a).length : Int) == 0) = false := by simp; omega
  have c2 : ((1 : Int) != 1) = false := rfl
  simp only [ofArgs, run_seq, run_block, run_ops, run_skip, run_exit, run_ret, thenQ_normal, thenQ_exit, thenQ_ret, blockQ_normal, blockQ_exit, blockQ_ret, retQ_ret, retQ_normal, ops_nil, ops_none, got_some, ops_wT, ops_wTn, ops_wF, ops_wFn, ops_wU, dops_wT, dops_wTn, dops_wF, dops_wFn, dops_wU, run_condT, run_condF, alt2_int, altB_bool, altI_int, altBB_bool, v_min, v_max, v_not, v_neg, optEv_none, optEv_some, isSome'_none, isSome'_some, pExt0, pExt1, pExt2, Bool.false_and, Bool.true_and, Bool.not_true, Bool.not_false, cond_true, cond_false, dops_nil, dops_none, xval_call, v_mov, v_bin, v_len, v_ext, v_idxA, v_ld, v_st, v_app, v_appN, v_cvs, v_bs1, pBs1, v_slc, v_conv, v_fld, v_fldA, v_new, v_box, v_mks, v_copy, v_isnil, v_nilck, v_pick, ev, evs_nil, evs_cons, fr_get_cons, fr_put_nil, fr_put_cons, fr_put_some, fr_put_none, fr_keep_nil, fr_keep_cons, fr_has_nil, fr_has_cons, Option.bind_some, Option.map_some, xbin, ibin, xresult_eq, xress_nil, xress_tmp, resV, ex_some, if_true, if_false, ite_true, ite_false, reduceIte, reduceCtorEq, Nat.reduceEqDiff, Nat.reduceLT, Nat.reduceLeDiff, Int.reduceLT, Int.reduceLE, Nat.zero_add, Nat.reduceAdd, Bool.false_eq_true, decide_eq_true_eq, decide_eq_false_iff_not, true_implies, false_implies, and_true, true_and, e1, e2, e3, c1, c2, bne_self_eq_false]
  refine fmr_all H1.n v1 a [1] [] _ H1 1 _ o1.ints (fun b hb => o1.ints.lt b hb) hb (Own.nil H1.n 1 H1) (Nat.le_refl _) (by simp; omega) (by simp; omega) (by simp) ?_
  intro v2 H2 j o2 k2
  have n2 := byts_len' o2.1
  have c3 : ¬ ((0 : Int) > 0) := by omega
  have c4 : ¬ ((([] ++ a).length : Int) > 2000) := by simp; omega
  simp only [ofArgs, run_seq, run_block, run_ops, run_skip, run_exit, run_ret, thenQ_normal, thenQ_exit, thenQ_ret, blockQ_normal, blockQ_exit, blockQ_ret, retQ_ret, retQ_normal, ops_nil, ops_none, got_some, ops_wT, ops_wTn, ops_wF, ops_wFn, ops_wU, dops_wT, dops_wTn, dops_wF, dops_wFn, dops_wU, run_condT, run_condF, alt2_int, altB_bool, altI_int, altBB_bool, v_min, v_max, v_not, v_neg, optEv_none, optEv_some, isSome'_none, isSome'_some, pExt0, pExt1, pExt2, Bool.false_and, Bool.true_and, Bool.not_true, Bool.not_false, cond_true, cond_false, dops_nil, dops_none, xval_call, v_mov, v_bin, v_len, v_ext, v_idxA, v_ld, v_st, v_app, v_appN, v_cvs, v_bs1, pBs1, v_slc, v_conv, v_fld, v_fldA, v_new, v_box, v_mks, v_copy, v_isnil, v_nilck, v_pick, ev, evs_nil, evs_cons, fr_get_cons, fr_put_nil, fr_put_cons, fr_put_some, fr_put_none, fr_keep_nil, fr_keep_cons, fr_has_nil, fr_has_cons, Option.bind_some, Option.map_some, xbin, ibin, xresult_eq, xress_nil, xress_tmp, resV, ex_some, if_true, if_false, ite_true, ite_false, reduceIte, reduceCtorEq, Nat.reduceEqDiff, Nat.reduceLT, Nat.reduceLeDiff, Int.reduceLT, Int.reduceLE, Nat.zero_add, Nat.reduceAdd, Bool.false_eq_true, decide_eq_true_eq, decide_eq_false_iff_not, true_implies, false_implies, and_true, true_and, c3, c4, n2, decide_false]
  exact hq v2 H2 (by simpa [OwnB] using o2.le (n0 := H.n) (by have := x1.1; omega)) (x1.trans k2)

set_option maxHeartbeats 4000000 in
theorem FmBack_ok (l by_ : List Int) (cell0 : Int) (s1 s2 : Value) (H : AH) (hs1 : Ints H s1 l) (hs2 : Ints H s2 by_) (hby : by_.length ≤ 17592186044416) : Got (xc Try.prog tab 10 [s1, s2, .int .i64 cell0] H) fun v H' => v = .bool true := by
  refine got_call (res := [.tmp 6]) rfl ?_
  simp only [ofArgs, run_seq, run_block, run_ops, run_skip, run_exit, run_ret, thenQ_normal, thenQ_exit, thenQ_ret, blockQ_normal, blockQ_exit, blockQ_ret, retQ_ret, retQ_normal, ops_nil, ops_none, got_some, ops_wT, ops_wTn, ops_wF, ops_wFn, ops_wU, dops_wT, dops_wTn, dops_wF, dops_wFn, dops_wU, run_condT, run_condF, alt2_int, altB_bool, altI_int, altBB_bool, v_min, v_max, v_not, v_neg, optEv_none, optEv_some, isSome'_none, isSome'_some, pExt0, pExt1, pExt2, Bool.false_and, Bool.true_and, Bool.not_true, Bool.not_false, cond_true, cond_false, dops_nil, dops_none, xval_call, v_mov, v_bin, v_len, v_ext, v_idxA, v_ld, v_st, v_app, v_appN, v_cvs, v_bs1, pBs1, v_slc, v_conv, v_fld, v_fldA, v_new, v_box, v_mks, v_copy, v_isnil, v_nilck, v_pick, ev, evs_nil, evs_cons, fr_get_cons, fr_put_nil, fr_put_cons, fr_put_some, fr_put_none, fr_keep_nil, fr_keep_cons, fr_has_nil, fr_has_cons, Option.bind_some, Option.map_some, xbin, ibin, xresult_eq, xress_nil, xress_tmp, resV, ex_some, if_true, if_false, ite_true, ite_false, reduceIte, reduceCtorEq, Nat.reduceEqDiff, Nat.reduceLT, Nat.reduceLeDiff, Int.reduceLT, Int.reduceLE, Nat.zero_add, Nat.reduceAdd, Bool.false_eq_true, decide_eq_true_eq, decide_eq_false_iff_not, true_implies, false_implies, and_true, true_and]
  refine some_ok l 60 (by omega) (by omega) s1 H _ hs1 ?_
  intro va H1 oa x1
  have la := someB_len l 60 (by omega) (by omega)
  have ba := someB_b8 l 60
  generalize someB l 60 = a at oa la ba
  have hc0 := Int.emod_nonneg cell0 (by omega : (999 : Int) ≠ 0)
  have hc1 := Int.emod_lt_of_pos cell0 (by omega : (0 : Int) < 999)
  have q1 := below_xc cell0 999 H1 (by omega) (by omega)
  have w1 := wrI (2 + cell0 % 999) (by omega) (by omega)
  simp only [ofArgs, run_seq, run_block, run_ops, run_skip, run_exit, run_ret, thenQ_normal, thenQ_exit, thenQ_ret, blockQ_normal, blockQ_exit, blockQ_ret, retQ_ret, retQ_normal, ops_nil, ops_none, got_some, ops_wT, ops_wTn, ops_wF, ops_wFn, ops_wU, dops_wT, dops_wTn, dops_wF, dops_wFn, dops_wU, run_condT, run_condF, alt2_int, altB_bool, altI_int, altBB_bool, v_min, v_max, v_not, v_neg, optEv_none, optEv_some, isSome'_none, isSome'_some, pExt0, pExt1, pExt2, Bool.false_and, Bool.true_and, Bool.not_true, Bool.not_false, cond_true, cond_false, dops_nil, dops_none, xval_call, v_mov, v_bin, v_len, v_ext, v_idxA, v_ld, v_st, v_app, v_appN, v_cvs, v_bs1, pBs1, v_slc, v_conv, v_fld, v_fldA, v_new, v_box, v_mks, v_copy, v_isnil, v_nilck, v_pick, ev, evs_nil, evs_cons, fr_get_cons, fr_put_nil, fr_put_cons, fr_put_some, fr_put_none, fr_keep_nil, fr_keep_cons, fr_has_nil, fr_has_cons, Option.bind_some, Option.map_some, xbin, ibin, xresult_eq, xress_nil, xress_tmp, resV, ex_some, if_true, if_false, ite_true, ite_false, reduceIte, reduceCtorEq, Nat.reduceEqDiff, Nat.reduceLT, Nat.reduceLeDiff, Int.reduceLT, Int.reduceLE, Nat.zero_add, Nat.reduceAdd, Bool.false_eq_true, decide_eq_true_eq, decide_eq_false_iff_not, true_implies, false_implies, and_true, true_and, q1, w1]
  have h2 : 2 ≤ 2 + cell0 % 999 := by omega
  have h3 : 2 + cell0 % 999 ≤ 1000 := by omega
  generalize 2 + cell0 % 999 = cell at h2 h3
  refine fmWrite_ok a cell va H1 _ oa.1 ba (by omega) h2 h3 ?_
  intro vt H2 ot x2
  have hwl := fmw_len a
  have h12 : ∀ x ∈ (1 :: fmw a), 1 ≤ x ∧ x ≤ 2 := by
    intro x hx
    rcases List.mem_cons.1 hx with h | h
    · omega
    · exact fmw_12 a x h
  simp only [ofArgs, run_seq, run_block, run_ops, run_skip, run_exit, run_ret, thenQ_normal, thenQ_exit, thenQ_ret, blockQ_normal, blockQ_exit, blockQ_ret, retQ_ret, retQ_normal, ops_nil, ops_none, got_some, ops_wT, ops_wTn, ops_wF, ops_wFn, ops_wU, dops_wT, dops_wTn, dops_wF, dops_wFn, dops_wU, run_condT, run_condF, alt2_int, altB_bool, altI_int, altBB_bool, v_min, v_max, v_not, v_neg, optEv_none, optEv_some, isSome'_none, isSome'_some, pExt0, pExt1, pExt2, Bool.false_and, Bool.true_and, Bool.not_true, Bool.not_false, cond_true, cond_false, dops_nil, dops_none, xval_call, v_mov, v_bin, v_len, v_ext, v_idxA, v_ld, v_st, v_app, v_appN, v_cvs, v_bs1, pBs1, v_slc, v_conv, v_fld, v_fldA, v_new, v_box, v_mks, v_copy, v_isnil, v_nilck, v_pick, ev, evs_nil, evs_cons, fr_get_cons, fr_put_nil, fr_put_cons, fr_put_some, fr_put_none, fr_keep_nil, fr_keep_cons, fr_has_nil, fr_has_cons, Option.bind_some, Option.map_some, xbin, ibin, xresult_eq, xress_nil, xress_tmp, resV, ex_some, if_true, if_false, ite_true, ite_false, reduceIte, reduceCtorEq, Nat.reduceEqDiff, Nat.reduceLT, Nat.reduceLeDiff, Int.reduceLT, Int.reduceLE, Nat.zero_add, Nat.reduceAdd, Bool.false_eq_true, decide_eq_true_eq, decide_eq_false_iff_not, true_implies, false_implies, and_true, true_and]
  refine shaken_ok (1 :: fmw a) by_ cell vt s2 H2 _ ot.ints (Sl.ext (x1.trans x2) hs2) hby (by simp; omega) h2 h3 (fun x hx => by have := h12 x hx; omega) ?_
  intro vu H3 w ou hlen hok hcel x3
  simp only [ofArgs, run_seq, run_block, run_ops, run_skip, run_exit, run_ret, thenQ_normal, thenQ_exit, thenQ_ret, blockQ_normal, blockQ_exit, blockQ_ret, retQ_ret, retQ_normal, ops_nil, ops_none, got_some, ops_wT, ops_wTn, ops_wF, ops_wFn, ops_wU, dops_wT, dops_wTn, dops_wF, dops_wFn, dops_wU, run_condT, run_condF, alt2_int, altB_bool, altI_int, altBB_bool, v_min, v_max, v_not, v_neg, optEv_none, optEv_some, isSome'_none, isSome'_some, pExt0, pExt1, pExt2, Bool.false_and, Bool.true_and, Bool.not_true, Bool.not_false, cond_true, cond_false, dops_nil, dops_none, xval_call, v_mov, v_bin, v_len, v_ext, v_idxA, v_ld, v_st, v_app, v_appN, v_cvs, v_bs1, pBs1, v_slc, v_conv, v_fld, v_fldA, v_new, v_box, v_mks, v_copy, v_isnil, v_nilck, v_pick, ev, evs_nil, evs_cons, fr_get_cons, fr_put_nil, fr_put_cons, fr_put_some, fr_put_none, fr_keep_nil, fr_keep_cons, fr_has_nil, fr_has_cons, Option.bind_some, Option.map_some, xbin, ibin, xresult_eq, xress_nil, xress_tmp, resV, ex_some, if_true, if_false, ite_true, ite_false, reduceIte, reduceCtorEq, Nat.reduceEqDiff, Nat.reduceLT, Nat.reduceLeDiff, Int.reduceLT, Int.reduceLE, Nat.zero_add, Nat.reduceAdd, Bool.false_eq_true, decide_eq_true_eq, decide_eq_false_iff_not, true_implies, false_implies, and_true, true_and]
  refine fmRead_ok a w cell vu H3 _ ou.ints ba (by omega) h2 h3 hok hcel ?_
  intro vb H4 ob x4
  have A4 : Byts H4 va a := Sl.ext (x2.trans (x3.trans x4)) oa.1
  have T4 : Ints H4 vt (pul cell (1 :: fmw a)) := Sl.ext (x3.trans x4) ot.ints
  have r1 := equalB_xc a a va vb H4 A4 ob.1 (by omega) (by omega)
  have okt := pul_ok cell h2 h3 (1 :: fmw a) (fun x hx => by have := h12 x hx; omega)
  have r2 := total_xc _ vt H4 T4 (by simp [pul]; omega) okt
  rw [pul_sum, List.sum_cons, fmw_sum] at r2
  have n1 := byts_len' A4
  have w2 := wrI (16 * (a.length : Int)) (by omega) (by omega)
  have w3 := wrI (16 * (a.length : Int) + 1) (by omega) (by omega)
  have hm1 : 0 * cell ≤ (16 * (a.length : Int) + 1) * cell := Int.mul_le_mul_of_nonneg_right (by omega) (by omega)
  have hm2 : (16 * (a.length : Int) + 1) * cell ≤ 1000 * cell := Int.mul_le_mul_of_nonneg_right (by omega) (by omega)
  have hm3 : 1 * cell ≤ (16 * (a.length : Int) + 1) * cell := Int.mul_le_mul_of_nonneg_right (by omega) (by omega)
  have w4 := wrI ((16 * (a.length : Int) + 1) * cell) (by omega) (by omega)
  have e5 : (1 + 16 * (a.length : Int)) * cell = (16 * (a.length : Int) + 1) * cell := by rw [Int.add_comm]
  rw [e5] at r2
  have c1 : (16 * (a.length : Int) + 1) * cell > 0 := by omega
  simp only [ofArgs, run_seq, run_block, run_ops, run_skip, run_exit, run_ret, thenQ_normal, thenQ_exit, thenQ_ret, blockQ_normal, blockQ_exit, blockQ_ret, retQ_ret, retQ_normal, ops_nil, ops_none, got_some, ops_wT, ops_wTn, ops_wF, ops_wFn, ops_wU, dops_wT, dops_wTn, dops_wF, dops_wFn, dops_wU, run_condT, run_condF, alt2_int, altB_bool, altI_int, altBB_bool, v_min, v_max, v_not, v_neg, optEv_none, optEv_some, isSome'_none, isSome'_some, pExt0, pExt1, pExt2, Bool.false_and, Bool.true_and, Bool.not_true, Bool.not_false, cond_true, cond_false, dops_nil, dops_none, xval_call, v_mov, v_bin, v_len, v_ext, v_idxA, v_ld, v_st, v_app, v_appN, v_cvs, v_bs1, pBs1, v_slc, v_conv, v_fld, v_fldA, v_new, v_box, v_mks, v_copy, v_isnil, v_nilck, v_pick, ev, evs_nil, evs_cons, fr_get_cons, fr_put_nil, fr_put_cons, fr_put_some, fr_put_none, fr_keep_nil, fr_keep_cons, fr_has_nil, fr_has_cons, Option.bind_some, Option.map_some, xbin, ibin, xresult_eq, xress_nil, xress_tmp, resV, ex_some, if_true, if_false, ite_true, ite_false, reduceIte, reduceCtorEq, Nat.reduceEqDiff, Nat.reduceLT, Nat.reduceLeDiff, Int.reduceLT, Int.reduceLE, Nat.zero_add, Nat.reduceAdd, Bool.false_eq_true, decide_eq_true_eq, decide_eq_false_iff_not, true_implies, false_implies, and_true, true_and, r1, r2, n1, w2, w3, w4, c1, decide_true, beq_self_eq_true]
end Go.Proofs.Ytkhjmmidaihbhaa.D
