/- What functions that the law reaches compute, on a heap of the run's own: the conditions stand in each theorem. -/
import Derived.Test.YtkhjmmidaihbhaaFlA
set_option linter.unusedSimpArgs false
set_option linter.unusedVariables false
namespace Go.Proofs.Ytkhjmmidaihbhaa.D
open Go Go.Det

/-- the cells of the last bits of a byte -/
def fmb (c : Nat) : Nat → List Int
  | 0 => []
  | k + 1 => (if c.testBit k then [1, 1] else [2]) ++ fmb c k
def fmw (l : List Int) : List Int := l.flatMap fun c => fmb c.toNat 8
theorem fmb_len (c k : Nat) : (fmb c k).length ≤ 2 * k := by
  induction k with
  | zero => simp [fmb]
  | succ k ih => simp only [fmb, List.length_append]; split <;> simp <;> omega
theorem fmb_sum (c k : Nat) : (fmb c k).sum = 2 * (k : Int) := by
  induction k with
  | zero => simp [fmb]
  | succ k ih => simp only [fmb, List.sum_append, ih]; split <;> simp <;> omega
theorem fmb_12 (c k : Nat) : ∀ a ∈ fmb c k, 1 ≤ a ∧ a ≤ 2 := by
  induction k with
  | zero => intro a h; simp [fmb] at h
  | succ k ih =>
    intro a h
    simp only [fmb, List.mem_append] at h
    rcases h with h | h
    · split at h <;> simp at h <;> omega
    · exact ih a h
theorem fmw_cons (c : Int) (l : List Int) : fmw (c :: l) = fmb c.toNat 8 ++ fmw l := by simp [fmw]
theorem fmw_len (l : List Int) : (fmw l).length ≤ 16 * l.length := by
  induction l with
  | nil => simp [fmw]
  | cons c l ih => rw [fmw_cons, List.length_append, List.length_cons]; have := fmb_len c.toNat 8; omega
theorem fmw_sum (l : List Int) : (fmw l).sum = 16 * (l.length : Int) := by
  induction l with
  | nil => simp [fmw]
  | cons c l ih => rw [fmw_cons, List.sum_append, fmb_sum, ih, List.length_cons]; omega
theorem fmw_12 (l : List Int) : ∀ a ∈ fmw l, 1 ≤ a ∧ a ≤ 2 := by
  induction l with
  | nil => intro a h; simp [fmw] at h
  | cons c l ih =>
    intro a h
    rw [fmw_cons, List.mem_append] at h
    rcases h with h | h
    · exact fmb_12 _ _ a h
    · exact ih a h

theorem app_two {n0 : Nat} {H : AH} {v : Value} {acc : List Int} {x y : Int} {Q : Value → AH → Prop} (ho : OwnI n0 H v acc) (hn : n0 ≤ H.n) (hle : acc.length + 2 ≤ 17592186044416)
    (hq : ∀ v' H', OwnI n0 H' v' (acc ++ [x, y]) → Stp v H v' H' → Q v' H') : Got (xapp (H.push ⟨[.int .i64 x, .int .i64 y], 1, false, false⟩) 1 8 v (.slice (some ⟨H.n, 0, none⟩) 2 2)) Q := by
  refine xapp_own (Own.ext (hext_push H _) ho) (by simp; omega) (Sl.pushed H [.int .i64 x, .int .i64 y] 1 2 false false rfl) rfl (Nat.le_refl _) (by omega) (by omega) ?_
  intro v' H' h1 h2
  refine hq v' H' (by simpa [OwnI] using h1) ⟨by have := h2.n; simp at this; omega, fun b hb hnb => ?_, fun b h => ?_⟩
  · rw [h2.get b (by simp; omega) hnb, AH.get_push, if_neg (by omega)]
  · rcases h2.new b h with h | h
    · exact .inl h
    · exact .inr (by simp at h; omega)
theorem app_oneB {n0 : Nat} {H : AH} {v : Value} {acc : List Int} {x : Int} {Q : Value → AH → Prop} (ho : OwnB n0 H v acc) (hn : n0 ≤ H.n) (hle : acc.length + 1 ≤ 1000000000)
    (hq : ∀ v' H', OwnB n0 H' v' (acc ++ [x]) → Stp v H v' H' → Q v' H') : Got (xapp (H.push ⟨[.int .u8 x], 1, false, false⟩) 1 1 v (.slice (some ⟨H.n, 0, none⟩) 1 1)) Q := by
  refine xapp_own (Own.ext (hext_push H _) ho) (by simp; omega) (Sl.pushed H [.int .u8 x] 1 1 false false rfl) rfl (Nat.le_refl _) (by omega) (by omega) ?_
  intro v' H' h1 h2
  refine hq v' H' (by simpa [OwnB] using h1) ⟨by have := h2.n; simp at this; omega, fun b hb hnb => ?_, fun b h => ?_⟩
  · rw [h2.get b (by simp; omega) hnb, AH.get_push, if_neg (by omega)]
  · rcases h2.new b h with h | h
    · exact .inl h
    · exact .inr (by simp at h; omega)

theorem fmw_l0 (n0 : Nat) (s : Value) (c : Nat) (hc : c < 256) (cell i N : Int) (k : Nat) : ∀ (acc : List Int) (v : Value) (H : AH) (j : Int) (Q : XExit → Fr → AH → Prop), OwnI n0 H v acc → n0 ≤ H.n → acc.length + 2 * k ≤ 1000000 → k ≤ 8 → j = (k : Int) - 1 →
    (∀ v' H', OwnI n0 H' v' (acc ++ fmb c k) → Keep n0 H H' → Q (.exit 2) [(1, .int .i64 cell), (6, v'), (8, .int .u8 c), (9, .int .i64 (-1)), (14, s), (15, .int .i64 N), (16, .int .i64 i), (21, .bool false)] H') →
    Run Try.prog tab (.loop xfm_Write_l0) [(1, .int .i64 cell), (6, v), (8, .int .u8 c), (9, .int .i64 j), (14, s), (15, .int .i64 N), (16, .int .i64 i)] H Q := by
  induction k with
  | zero =>
    intro acc v H j Q ho hn hl hk hj hq
    rw [run_loop]
    generalize hL : XCode.loop xfm_Write_l0 = L
    obtain rfl : j = -1 := by omega
    have c1 : ¬ (-1 : Int) ≥ 0 := by omega
    simp only [xfm_Write_l0, ofArgs, run_seq, run_block, run_ops, run_skip, run_exit, run_ret, thenQ_normal, thenQ_exit, thenQ_ret, blockQ_normal, blockQ_exit, blockQ_ret, retQ_ret, retQ_normal, ops_nil, ops_none, got_some, ops_wT, ops_wTn, ops_wF, ops_wFn, ops_wU, dops_wT, dops_wTn, dops_wF, dops_wFn, dops_wU, run_condT, run_condF, alt2_int, altB_bool, altI_int, altBB_bool, v_min, v_max, v_not, v_neg, optEv_none, optEv_some, isSome'_none, isSome'_some, pExt0, pExt1, pExt2, Bool.false_and, Bool.true_and, Bool.not_true, Bool.not_false, cond_true, cond_false, dops_nil, dops_none, xval_call, v_mov, v_bin, v_len, v_ext, v_idxA, v_ld, v_st, v_app, v_appN, v_cvs, v_bs1, pBs1, v_slc, v_conv, v_fld, v_fldA, v_new, v_box, v_mks, v_copy, v_isnil, v_nilck, v_pick, ev, evs_nil, evs_cons, fr_get_cons, fr_put_nil, fr_put_cons, fr_put_some, fr_put_none, fr_keep_nil, fr_keep_cons, fr_has_nil, fr_has_cons, Option.bind_some, Option.map_some, xbin, ibin, xresult_eq, xress_nil, xress_tmp, resV, ex_some, if_true, if_false, ite_true, ite_false, reduceIte, reduceCtorEq, Nat.reduceEqDiff, Nat.reduceLT, Nat.reduceLeDiff, Int.reduceLT, Int.reduceLE, Nat.zero_add, Nat.reduceAdd, Bool.false_eq_true, decide_eq_true_eq, decide_eq_false_iff_not, true_implies, false_implies, and_true, true_and, c1, decide_false]
    exact hq v H (by simpa [fmb] using ho) (.refl _ _)
  | succ k ih =>
    intro acc v H j Q ho hn hl hk hj hq
    rw [run_loop]
    generalize hL : XCode.loop xfm_Write_l0 = L
    obtain rfl : j = (k : Int) := by omega
    have c1 : (k : Int) ≥ 0 := by omega
    have c2 : ¬ (k : Int) < 0 := by omega
    have t1 : min (Int.toNat (k : Int)) IntKind.u8.bits = k := by
      rw [Int.toNat_natCast]; show min _ 8 = _; omega
    have t2 := shrN c k
    have t3 := b_and (c >>> k) 1 (by rw [Nat.shiftRight_eq_div_pow]; exact Nat.lt_of_le_of_lt (Nat.div_le_self _ _) hc) (by omega)
    have n1 : ((1 : Nat) : Int) = 1 := rfl
    rw [n1] at t3
    have t4 := and1 c k
    have w1 := wrI ((k : Int) - 1) (by omega) (by omega)
    cases hb : c.testBit k
    · rw [hb] at t4
      have e : fmb c (k + 1) = [2] ++ fmb c k := by simp [fmb, hb]
      rw [e] at hq
      simp only [xfm_Write_l0, ofArgs, run_seq, run_block, run_ops, run_skip, run_exit, run_ret, thenQ_normal, thenQ_exit, thenQ_ret, blockQ_normal, blockQ_exit, blockQ_ret, retQ_ret, retQ_normal, ops_nil, ops_none, got_some, ops_wT, ops_wTn, ops_wF, ops_wFn, ops_wU, dops_wT, dops_wTn, dops_wF, dops_wFn, dops_wU, run_condT, run_condF, alt2_int, altB_bool, altI_int, altBB_bool, v_min, v_max, v_not, v_neg, optEv_none, optEv_some, isSome'_none, isSome'_some, pExt0, pExt1, pExt2, Bool.false_and, Bool.true_and, Bool.not_true, Bool.not_false, cond_true, cond_false, dops_nil, dops_none, xval_call, v_mov, v_bin, v_len, v_ext, v_idxA, v_ld, v_st, v_app, v_appN, v_cvs, v_bs1, pBs1, v_slc, v_conv, v_fld, v_fldA, v_new, v_box, v_mks, v_copy, v_isnil, v_nilck, v_pick, ev, evs_nil, evs_cons, fr_get_cons, fr_put_nil, fr_put_cons, fr_put_some, fr_put_none, fr_keep_nil, fr_keep_cons, fr_has_nil, fr_has_cons, Option.bind_some, Option.map_some, xbin, ibin, xresult_eq, xress_nil, xress_tmp, resV, ex_some, if_true, if_false, ite_true, ite_false, reduceIte, reduceCtorEq, Nat.reduceEqDiff, Nat.reduceLT, Nat.reduceLeDiff, Int.reduceLT, Int.reduceLE, Nat.zero_add, Nat.reduceAdd, Bool.false_eq_true, decide_eq_true_eq, decide_eq_false_iff_not, true_implies, false_implies, and_true, true_and, c1, c2, t1, t2, t3, t4, decide_true, decide_false]
      refine app_one ho hn (by omega) fun v' H' ho' hs' => ?_
      have hk' := hs'.keep ho hn
      simp only [ofArgs, run_seq, run_block, run_ops, run_skip, run_exit, run_ret, thenQ_normal, thenQ_exit, thenQ_ret, blockQ_normal, blockQ_exit, blockQ_ret, retQ_ret, retQ_normal, ops_nil, ops_none, got_some, ops_wT, ops_wTn, ops_wF, ops_wFn, ops_wU, dops_wT, dops_wTn, dops_wF, dops_wFn, dops_wU, run_condT, run_condF, alt2_int, altB_bool, altI_int, altBB_bool, v_min, v_max, v_not, v_neg, optEv_none, optEv_some, isSome'_none, isSome'_some, pExt0, pExt1, pExt2, Bool.false_and, Bool.true_and, Bool.not_true, Bool.not_false, cond_true, cond_false, dops_nil, dops_none, xval_call, v_mov, v_bin, v_len, v_ext, v_idxA, v_ld, v_st, v_app, v_appN, v_cvs, v_bs1, pBs1, v_slc, v_conv, v_fld, v_fldA, v_new, v_box, v_mks, v_copy, v_isnil, v_nilck, v_pick, ev, evs_nil, evs_cons, fr_get_cons, fr_put_nil, fr_put_cons, fr_put_some, fr_put_none, fr_keep_nil, fr_keep_cons, fr_has_nil, fr_has_cons, Option.bind_some, Option.map_some, xbin, ibin, xresult_eq, xress_nil, xress_tmp, resV, ex_some, if_true, if_false, ite_true, ite_false, reduceIte, reduceCtorEq, Nat.reduceEqDiff, Nat.reduceLT, Nat.reduceLeDiff, Int.reduceLT, Int.reduceLE, Nat.zero_add, Nat.reduceAdd, Bool.false_eq_true, decide_eq_true_eq, decide_eq_false_iff_not, true_implies, false_implies, and_true, true_and, w1]
      subst hL
      refine ih (acc ++ [2]) v' H' _ Q ho' (by have := hk'.1; omega) (by simp; omega) (by omega) rfl ?_
      intro v2 H2 o2 k2
      exact hq v2 H2 (by simpa using o2) (hk'.trans k2)
    · rw [hb] at t4
      have e : fmb c (k + 1) = [1, 1] ++ fmb c k := by simp [fmb, hb]
      rw [e] at hq
      simp only [xfm_Write_l0, ofArgs, run_seq, run_block, run_ops, run_skip, run_exit, run_ret, thenQ_normal, thenQ_exit, thenQ_ret, blockQ_normal, blockQ_exit, blockQ_ret, retQ_ret, retQ_normal, ops_nil, ops_none, got_some, ops_wT, ops_wTn, ops_wF, ops_wFn, ops_wU, dops_wT, dops_wTn, dops_wF, dops_wFn, dops_wU, run_condT, run_condF, alt2_int, altB_bool, altI_int, altBB_bool, v_min, v_max, v_not, v_neg, optEv_none, optEv_some, isSome'_none, isSome'_some, pExt0, pExt1, pExt2, Bool.false_and, Bool.true_and, Bool.not_true, Bool.not_false, cond_true, cond_false, dops_nil, dops_none, xval_call, v_mov, v_bin, v_len, v_ext, v_idxA, v_ld, v_st, v_app, v_appN, v_cvs, v_bs1, pBs1, v_slc, v_conv, v_fld, v_fldA, v_new, v_box, v_mks, v_copy, v_isnil, v_nilck, v_pick, ev, evs_nil, evs_cons, fr_get_cons, fr_put_nil, fr_put_cons, fr_put_some, fr_put_none, fr_keep_nil, fr_keep_cons, fr_has_nil, fr_has_cons, Option.bind_some, Option.map_some, xbin, ibin, xresult_eq, xress_nil, xress_tmp, resV, ex_some, if_true, if_false, ite_true, ite_false, reduceIte, reduceCtorEq, Nat.reduceEqDiff, Nat.reduceLT, Nat.reduceLeDiff, Int.reduceLT, Int.reduceLE, Nat.zero_add, Nat.reduceAdd, Bool.false_eq_true, decide_eq_true_eq, decide_eq_false_iff_not, true_implies, false_implies, and_true, true_and, c1, c2, t1, t2, t3, t4, decide_true, decide_false, v_bs2]
      refine app_two ho hn (by omega) fun v' H' ho' hs' => ?_
      have hk' := hs'.keep ho hn
      simp only [ofArgs, run_seq, run_block, run_ops, run_skip, run_exit, run_ret, thenQ_normal, thenQ_exit, thenQ_ret, blockQ_normal, blockQ_exit, blockQ_ret, retQ_ret, retQ_normal, ops_nil, ops_none, got_some, ops_wT, ops_wTn, ops_wF, ops_wFn, ops_wU, dops_wT, dops_wTn, dops_wF, dops_wFn, dops_wU, run_condT, run_condF, alt2_int, altB_bool, altI_int, altBB_bool, v_min, v_max, v_not, v_neg, optEv_none, optEv_some, isSome'_none, isSome'_some, pExt0, pExt1, pExt2, Bool.false_and, Bool.true_and, Bool.not_true, Bool.not_false, cond_true, cond_false, dops_nil, dops_none, xval_call, v_mov, v_bin, v_len, v_ext, v_idxA, v_ld, v_st, v_app, v_appN, v_cvs, v_bs1, pBs1, v_slc, v_conv, v_fld, v_fldA, v_new, v_box, v_mks, v_copy, v_isnil, v_nilck, v_pick, ev, evs_nil, evs_cons, fr_get_cons, fr_put_nil, fr_put_cons, fr_put_some, fr_put_none, fr_keep_nil, fr_keep_cons, fr_has_nil, fr_has_cons, Option.bind_some, Option.map_some, xbin, ibin, xresult_eq, xress_nil, xress_tmp, resV, ex_some, if_true, if_false, ite_true, ite_false, reduceIte, reduceCtorEq, Nat.reduceEqDiff, Nat.reduceLT, Nat.reduceLeDiff, Int.reduceLT, Int.reduceLE, Nat.zero_add, Nat.reduceAdd, Bool.false_eq_true, decide_eq_true_eq, decide_eq_false_iff_not, true_implies, false_implies, and_true, true_and, w1]
      subst hL
      refine ih (acc ++ [1, 1]) v' H' _ Q ho' (by have := hk'.1; omega) (by simp; omega) (by omega) rfl ?_
      intro v2 H2 o2 k2
      exact hq v2 H2 (by simpa using o2) (hk'.trans k2)

theorem fmw_l1 (n0 : Nat) (s : Value) (cell : Int) (rest : List Int) : ∀ (pre acc : List Int) (v : Value) (H : AH) (i N : Int) (Q : XExit → Fr → AH → Prop), Byts H s (pre ++ rest) → B8 rest → (∀ b, inB s b → b < n0) → OwnI n0 H v acc → n0 ≤ H.n →
    pre.length + rest.length ≤ 2000 → acc.length + 16 * rest.length ≤ 100000 → i = (pre.length : Int) → N = ((pre ++ rest).length : Int) →
    (∀ v' H', OwnI n0 H' v' (acc ++ fmw rest) → Keep n0 H H' → Q (.exit 0) [(1, .int .i64 cell), (6, v'), (14, s), (15, .int .i64 N), (16, .int .i64 N), (17, .bool false)] H') →
    Run Try.prog tab (.loop xfm_Write_l1) [(1, .int .i64 cell), (6, v), (14, s), (15, .int .i64 N), (16, .int .i64 i)] H Q := by
  induction rest with
  | nil =>
    intro pre acc v H i N Q hs hb hsb ho hn hl hal hi hN hq
    rw [run_loop]
    generalize hL : XCode.loop xfm_Write_l1 = L
    have hiN : i = N := by simp at hN; omega
    subst hiN
    have hf : ¬ i < i := by omega
    simp only [xfm_Write_l1, ofArgs, run_seq, run_block, run_ops, run_skip, run_exit, run_ret, thenQ_normal, thenQ_exit, thenQ_ret, blockQ_normal, blockQ_exit, blockQ_ret, retQ_ret, retQ_normal, ops_nil, ops_none, got_some, ops_wT, ops_wTn, ops_wF, ops_wFn, ops_wU, dops_wT, dops_wTn, dops_wF, dops_wFn, dops_wU, run_condT, run_condF, alt2_int, altB_bool, altI_int, altBB_bool, v_min, v_max, v_not, v_neg, optEv_none, optEv_some, isSome'_none, isSome'_some, pExt0, pExt1, pExt2, Bool.false_and, Bool.true_and, Bool.not_true, Bool.not_false, cond_true, cond_false, dops_nil, dops_none, xval_call, v_mov, v_bin, v_len, v_ext, v_idxA, v_ld, v_st, v_app, v_appN, v_cvs, v_bs1, pBs1, v_slc, v_conv, v_fld, v_fldA, v_new, v_box, v_mks, v_copy, v_isnil, v_nilck, v_pick, ev, evs_nil, evs_cons, fr_get_cons, fr_put_nil, fr_put_cons, fr_put_some, fr_put_none, fr_keep_nil, fr_keep_cons, fr_has_nil, fr_has_cons, Option.bind_some, Option.map_some, xbin, ibin, xresult_eq, xress_nil, xress_tmp, resV, ex_some, if_true, if_false, ite_true, ite_false, reduceIte, reduceCtorEq, Nat.reduceEqDiff, Nat.reduceLT, Nat.reduceLeDiff, Int.reduceLT, Int.reduceLE, Nat.zero_add, Nat.reduceAdd, Bool.false_eq_true, decide_eq_true_eq, decide_eq_false_iff_not, true_implies, false_implies, and_true, true_and, hf, decide_false]
    exact hq v H (by simpa [fmw] using ho) (.refl _ _)
  | cons a rest ih =>
    intro pre acc v H i N Q hs hb hsb ho hn hl hal hi hN hq
    simp only [List.length_cons] at hl hal
    rw [run_loop]
    generalize hL : XCode.loop xfm_Write_l1 = L
    have hlt : i < N := by simp at hN; omega
    have ha := hb a (by simp)
    have e1 := byts_idx hs i pre.length hi (by simp)
    have e2 := byts_ld hs pre.length a (by simp)
    have e4 := wrI (i + 1) (by omega) (by omega)
    obtain ⟨c, rfl⟩ : ∃ c : Nat, a = (c : Int) := ⟨a.toNat, by omega⟩
    simp only [xfm_Write_l1, ofArgs, run_seq, run_block, run_ops, run_skip, run_exit, run_ret, thenQ_normal, thenQ_exit, thenQ_ret, blockQ_normal, blockQ_exit, blockQ_ret, retQ_ret, retQ_normal, ops_nil, ops_none, got_some, ops_wT, ops_wTn, ops_wF, ops_wFn, ops_wU, dops_wT, dops_wTn, dops_wF, dops_wFn, dops_wU, run_condT, run_condF, alt2_int, altB_bool, altI_int, altBB_bool, v_min, v_max, v_not, v_neg, optEv_none, optEv_some, isSome'_none, isSome'_some, pExt0, pExt1, pExt2, Bool.false_and, Bool.true_and, Bool.not_true, Bool.not_false, cond_true, cond_false, dops_nil, dops_none, xval_call, v_mov, v_bin, v_len, v_ext, v_idxA, v_ld, v_st, v_app, v_appN, v_cvs, v_bs1, pBs1, v_slc, v_conv, v_fld, v_fldA, v_new, v_box, v_mks, v_copy, v_isnil, v_nilck, v_pick, ev, evs_nil, evs_cons, fr_get_cons, fr_put_nil, fr_put_cons, fr_put_some, fr_put_none, fr_keep_nil, fr_keep_cons, fr_has_nil, fr_has_cons, Option.bind_some, Option.map_some, xbin, ibin, xresult_eq, xress_nil, xress_tmp, resV, ex_some, if_true, if_false, ite_true, ite_false, reduceIte, reduceCtorEq, Nat.reduceEqDiff, Nat.reduceLT, Nat.reduceLeDiff, Int.reduceLT, Int.reduceLE, Nat.zero_add, Nat.reduceAdd, Bool.false_eq_true, decide_eq_true_eq, decide_eq_false_iff_not, true_implies, false_implies, and_true, true_and, hlt, decide_true, e1, e2]
    refine fmw_l0 n0 s c (by omega) cell i N 8 acc v H _ _ ho hn (by omega) (by omega) (by omega) ?_
    intro v' H' ho' hk
    have hlen := fmb_len c 8
    simp only [ofArgs, run_seq, run_block, run_ops, run_skip, run_exit, run_ret, thenQ_normal, thenQ_exit, thenQ_ret, blockQ_normal, blockQ_exit, blockQ_ret, retQ_ret, retQ_normal, ops_nil, ops_none, got_some, ops_wT, ops_wTn, ops_wF, ops_wFn, ops_wU, dops_wT, dops_wTn, dops_wF, dops_wFn, dops_wU, run_condT, run_condF, alt2_int, altB_bool, altI_int, altBB_bool, v_min, v_max, v_not, v_neg, optEv_none, optEv_some, isSome'_none, isSome'_some, pExt0, pExt1, pExt2, Bool.false_and, Bool.true_and, Bool.not_true, Bool.not_false, cond_true, cond_false, dops_nil, dops_none, xval_call, v_mov, v_bin, v_len, v_ext, v_idxA, v_ld, v_st, v_app, v_appN, v_cvs, v_bs1, pBs1, v_slc, v_conv, v_fld, v_fldA, v_new, v_box, v_mks, v_copy, v_isnil, v_nilck, v_pick, ev, evs_nil, evs_cons, fr_get_cons, fr_put_nil, fr_put_cons, fr_put_some, fr_put_none, fr_keep_nil, fr_keep_cons, fr_has_nil, fr_has_cons, Option.bind_some, Option.map_some, xbin, ibin, xresult_eq, xress_nil, xress_tmp, resV, ex_some, if_true, if_false, ite_true, ite_false, reduceIte, reduceCtorEq, Nat.reduceEqDiff, Nat.reduceLT, Nat.reduceLeDiff, Int.reduceLT, Int.reduceLE, Nat.zero_add, Nat.reduceAdd, Bool.false_eq_true, decide_eq_true_eq, decide_eq_false_iff_not, true_implies, false_implies, and_true, true_and, e4]
    subst hL
    refine ih (pre ++ [(c : Int)]) (acc ++ fmb c 8) v' H' (i + 1) N Q (Byts.app1 (Sl.keep hk hs hsb)) (fun p hp => hb p (by simp [hp])) hsb ho' (by have := hk.1; omega) (by simp; omega) (by simp; omega) (by simp; omega) (by simpa using hN) ?_
    intro v2 H2 o2 k2
    refine hq v2 H2 ?_ (hk.trans k2)
    rw [fmw_cons, Int.toNat_natCast]
    simpa using o2

theorem fmWrite_ok (l : List Int) (cell : Int) (s : Value) (H : AH) (Q : Value → AH → Prop) (hs : Byts H s l) (hb : B8 l) (hl : l.length ≤ 2000) (h2 : 2 ≤ cell) (h3 : cell ≤ 1000)
    (hq : ∀ v H', OwnI H.n H' v (pul cell (1 :: fmw l)) → HExt H H' → Q (.tuple [v, .int .i64 0].toArray) H') : Got (xc Try.prog tab 48 [s, .int .i64 cell] H) Q := by
  refine got_call (res := [.tmp 4, .tmp 5]) rfl ?_
  have e1 := byts_len' hs
  have c1 : ¬ (l.length : Int) > 2000 := by omega
  have hs1 : Byts (H.push ⟨[.int .i64 1], 1, false, false⟩) s l := Sl.ext (hext_push _ _) hs
  have e2 := byts_len' hs1
  simp only [ofArgs, run_seq, run_block, run_ops, run_skip, run_exit, run_ret, thenQ_normal, thenQ_exit, thenQ_ret, blockQ_normal, blockQ_exit, blockQ_ret, retQ_ret, retQ_normal, ops_nil, ops_none, got_some, ops_wT, ops_wTn, ops_wF, ops_wFn, ops_wU, dops_wT, dops_wTn, dops_wF, dops_wFn, dops_wU, run_condT, run_condF, alt2_int, altB_bool, altI_int, altBB_bool, v_min, v_max, v_not, v_neg, optEv_none, optEv_some, isSome'_none, isSome'_some, pExt0, pExt1, pExt2, Bool.false_and, Bool.true_and, Bool.not_true, Bool.not_false, cond_true, cond_false, dops_nil, dops_none, xval_call, v_mov, v_bin, v_len, v_ext, v_idxA, v_ld, v_st, v_app, v_appN, v_cvs, v_bs1, pBs1, v_slc, v_conv, v_fld, v_fldA, v_new, v_box, v_mks, v_copy, v_isnil, v_nilck, v_pick, ev, evs_nil, evs_cons, fr_get_cons, fr_put_nil, fr_put_cons, fr_put_some, fr_put_none, fr_keep_nil, fr_keep_cons, fr_has_nil, fr_has_cons, Option.bind_some, Option.map_some, xbin, ibin, xresult_eq, xress_nil, xress_tmp, resV, ex_some, if_true, if_false, ite_true, ite_false, reduceIte, reduceCtorEq, Nat.reduceEqDiff, Nat.reduceLT, Nat.reduceLeDiff, Int.reduceLT, Int.reduceLE, Nat.zero_add, Nat.reduceAdd, Bool.false_eq_true, decide_eq_true_eq, decide_eq_false_iff_not, true_implies, false_implies, and_true, true_and, e1, e2, c1, decide_false]
  have ho1 : OwnI H.n (H.push ⟨[.int .i64 1], 1, false, false⟩) (.slice (some ⟨H.n, 0, none⟩) 1 1) [1] := Own.pushed H [.int .i64 1] 1 1 false rfl
  refine fmw_l1 H.n s cell l [] [1] _ _ _ _ _ hs1 hb (fun b hb => hs.lt hb) ho1 (by simp) (by simpa using hl) (by simp; omega) (by simp) (by simp) ?_
  intro v1 H1 o1 k1
  have x1 : HExt H H1 := Keep.trans (n0 := H.n) (hext_push H _) k1
  have hlen := fmw_len l
  simp only [ofArgs, run_seq, run_block, run_ops, run_skip, run_exit, run_ret, thenQ_normal, thenQ_exit, thenQ_ret, blockQ_normal, blockQ_exit, blockQ_ret, retQ_ret, retQ_normal, ops_nil, ops_none, got_some, ops_wT, ops_wTn, ops_wF, ops_wFn, ops_wU, dops_wT, dops_wTn, dops_wF, dops_wFn, dops_wU, run_condT, run_condF, alt2_int, altB_bool, altI_int, altBB_bool, v_min, v_max, v_not, v_neg, optEv_none, optEv_some, isSome'_none, isSome'_some, pExt0, pExt1, pExt2, Bool.false_and, Bool.true_and, Bool.not_true, Bool.not_false, cond_true, cond_false, dops_nil, dops_none, xval_call, v_mov, v_bin, v_len, v_ext, v_idxA, v_ld, v_st, v_app, v_appN, v_cvs, v_bs1, pBs1, v_slc, v_conv, v_fld, v_fldA, v_new, v_box, v_mks, v_copy, v_isnil, v_nilck, v_pick, ev, evs_nil, evs_cons, fr_get_cons, fr_put_nil, fr_put_cons, fr_put_some, fr_put_none, fr_keep_nil, fr_keep_cons, fr_has_nil, fr_has_cons, Option.bind_some, Option.map_some, xbin, ibin, xresult_eq, xress_nil, xress_tmp, resV, ex_some, if_true, if_false, ite_true, ite_false, reduceIte, reduceCtorEq, Nat.reduceEqDiff, Nat.reduceLT, Nat.reduceLeDiff, Int.reduceLT, Int.reduceLE, Nat.zero_add, Nat.reduceAdd, Bool.false_eq_true, decide_eq_true_eq, decide_eq_false_iff_not, true_implies, false_implies, and_true, true_and]
  refine pulses_ok ([1] ++ fmw l) cell v1 H1 _ o1.ints (by simp; omega) h2 h3 ?_ ?_
  · intro a ha
    rcases List.mem_append.1 ha with h | h
    · simp at h; omega
    · have := fmw_12 l a h; omega
  intro v2 H2 o2 x2
  simp only [ofArgs, run_seq, run_block, run_ops, run_skip, run_exit, run_ret, thenQ_normal, thenQ_exit, thenQ_ret, blockQ_normal, blockQ_exit, blockQ_ret, retQ_ret, retQ_normal, ops_nil, ops_none, got_some, ops_wT, ops_wTn, ops_wF, ops_wFn, ops_wU, dops_wT, dops_wTn, dops_wF, dops_wFn, dops_wU, run_condT, run_condF, alt2_int, altB_bool, altI_int, altBB_bool, v_min, v_max, v_not, v_neg, optEv_none, optEv_some, isSome'_none, isSome'_some, pExt0, pExt1, pExt2, Bool.false_and, Bool.true_and, Bool.not_true, Bool.not_false, cond_true, cond_false, dops_nil, dops_none, xval_call, v_mov, v_bin, v_len, v_ext, v_idxA, v_ld, v_st, v_app, v_appN, v_cvs, v_bs1, pBs1, v_slc, v_conv, v_fld, v_fldA, v_new, v_box, v_mks, v_copy, v_isnil, v_nilck, v_pick, ev, evs_nil, evs_cons, fr_get_cons, fr_put_nil, fr_put_cons, fr_put_some, fr_put_none, fr_keep_nil, fr_keep_cons, fr_has_nil, fr_has_cons, Option.bind_some, Option.map_some, xbin, ibin, xresult_eq, xress_nil, xress_tmp, resV, ex_some, if_true, if_false, ite_true, ite_false, reduceIte, reduceCtorEq, Nat.reduceEqDiff, Nat.reduceLT, Nat.reduceLeDiff, Int.reduceLT, Int.reduceLE, Nat.zero_add, Nat.reduceAdd, Bool.false_eq_true, decide_eq_true_eq, decide_eq_false_iff_not, true_implies, false_implies, and_true, true_and]
  exact hq v2 H2 (o2.le (by have := x1.1; omega)) (x1.trans x2)

/-- one bit is read -/
theorem fmr_step (n0 : Nat) (s v : Value) (pre suf out : List Int) (b : Bool) (cc bits : Nat) (H : AH) (i : Int) (Q : XExit → Fr → AH → Prop) (hs : Ints H s (pre ++ ((if b then [1, 1] else [2]) ++ suf))) (ho : OwnB n0 H v out) (hn : n0 ≤ H.n)
    (hl : pre.length + suf.length ≤ 100000) (hol : out.length ≤ 100000) (hi : i = (pre.length : Int)) (hb : bits < 8) (hcc : cc < 128)
    (h1 : bits < 7 → Run Try.prog tab (.loop xfm_Read_l0) [(6, s), (8, v), (9, .int .i64 ((2 * cc + b.toNat : Nat) : Int)), (10, .int .i64 ((bits + 1 : Nat) : Int)), (11, .int .i64 (((pre ++ (if b then [1, 1] else [2])).length : Nat) : Int))] H Q)
    (h2 : bits = 7 → ∀ v' H', OwnB n0 H' v' (out ++ [((2 * cc + b.toNat : Nat) : Int)]) → Keep n0 H H' → Run Try.prog tab (.loop xfm_Read_l0) [(6, s), (8, v'), (9, .int .i64 0), (10, .int .i64 0), (11, .int .i64 (((pre ++ (if b then [1, 1] else [2])).length : Nat) : Int))] H' Q) :
    Run Try.prog tab (.loop xfm_Read_l0) [(6, s), (8, v), (9, .int .i64 (cc : Nat)), (10, .int .i64 (bits : Nat)), (11, .int .i64 i)] H Q := by
  rw [run_loop]
  generalize hL : XCode.loop xfm_Read_l0 = L
  rw [hL] at h1 h2
  have e1 := ints_len hs
  have w1 := wrI ((cc : Int) * 2) (by omega) (by omega)
  have w4 := wrI ((bits : Int) + 1) (by omega) (by omega)
  have w5 := wrI (i + 1) (by omega) (by omega)
  have w6 := wrI (i + 1 + 1) (by omega) (by omega)
  cases b with
  | false =>
    simp only [Bool.false_eq_true, if_false, Bool.toNat_false, Nat.add_zero] at h1 h2 hs
    have hlt : i < ((pre ++ ([2] ++ suf)).length : Int) := by simp; omega
    have e2 := ints_idx hs i pre.length hi (by simp)
    have e3 := ints_ld hs pre.length 2 (by simp)
    have b21 : ((2 : Int) == 1) = false := rfl
    have hp : (((pre ++ [2]).length : Nat) : Int) = i + 1 := by simp; omega
    rw [hp] at h1 h2
    have hcc2 : ((2 * cc : Nat) : Int) = (cc : Int) * 2 := by omega
    rw [hcc2] at h1 h2
    by_cases hb7 : bits = 7
    · subst hb7
      have c8 : (((7 : Nat) : Int) + 1 == 8) = true := rfl
      have wc := wrU8' ((cc : Int) * 2) (by omega) (by omega)
      simp only [xfm_Read_l0, ofArgs, run_seq, run_block, run_ops, run_skip, run_exit, run_ret, thenQ_normal, thenQ_exit, thenQ_ret, blockQ_normal, blockQ_exit, blockQ_ret, retQ_ret, retQ_normal, ops_nil, ops_none, got_some, ops_wT, ops_wTn, ops_wF, ops_wFn, ops_wU, dops_wT, dops_wTn, dops_wF, dops_wFn, dops_wU, run_condT, run_condF, alt2_int, altB_bool, altI_int, altBB_bool, v_min, v_max, v_not, v_neg, optEv_none, optEv_some, isSome'_none, isSome'_some, pExt0, pExt1, pExt2, Bool.false_and, Bool.true_and, Bool.not_true, Bool.not_false, cond_true, cond_false, dops_nil, dops_none, xval_call, v_mov, v_bin, v_len, v_ext, v_idxA, v_ld, v_st, v_app, v_appN, v_cvs, v_bs1, pBs1, v_slc, v_conv, v_fld, v_fldA, v_new, v_box, v_mks, v_copy, v_isnil, v_nilck, v_pick, ev, evs_nil, evs_cons, fr_get_cons, fr_put_nil, fr_put_cons, fr_put_some, fr_put_none, fr_keep_nil, fr_keep_cons, fr_has_nil, fr_has_cons, Option.bind_some, Option.map_some, xbin, ibin, xresult_eq, xress_nil, xress_tmp, resV, ex_some, if_true, if_false, ite_true, ite_false, reduceIte, reduceCtorEq, Nat.reduceEqDiff, Nat.reduceLT, Nat.reduceLeDiff, Int.reduceLT, Int.reduceLE, Nat.zero_add, Nat.reduceAdd, Bool.false_eq_true, decide_eq_true_eq, decide_eq_false_iff_not, true_implies, false_implies, and_true, true_and, e1, hlt, decide_true, w1, e2, e3, b21, w4, c8, pConv, wc]
      refine app_oneB ho hn (by omega) fun v' H' ho' hs' => ?_
      simp only [ofArgs, run_seq, run_block, run_ops, run_skip, run_exit, run_ret, thenQ_normal, thenQ_exit, thenQ_ret, blockQ_normal, blockQ_exit, blockQ_ret, retQ_ret, retQ_normal, ops_nil, ops_none, got_some, ops_wT, ops_wTn, ops_wF, ops_wFn, ops_wU, dops_wT, dops_wTn, dops_wF, dops_wFn, dops_wU, run_condT, run_condF, alt2_int, altB_bool, altI_int, altBB_bool, v_min, v_max, v_not, v_neg, optEv_none, optEv_some, isSome'_none, isSome'_some, pExt0, pExt1, pExt2, Bool.false_and, Bool.true_and, Bool.not_true, Bool.not_false, cond_true, cond_false, dops_nil, dops_none, xval_call, v_mov, v_bin, v_len, v_ext, v_idxA, v_ld, v_st, v_app, v_appN, v_cvs, v_bs1, pBs1, v_slc, v_conv, v_fld, v_fldA, v_new, v_box, v_mks, v_copy, v_isnil, v_nilck, v_pick, ev, evs_nil, evs_cons, fr_get_cons, fr_put_nil, fr_put_cons, fr_put_some, fr_put_none, fr_keep_nil, fr_keep_cons, fr_has_nil, fr_has_cons, Option.bind_some, Option.map_some, xbin, ibin, xresult_eq, xress_nil, xress_tmp, resV, ex_some, if_true, if_false, ite_true, ite_false, reduceIte, reduceCtorEq, Nat.reduceEqDiff, Nat.reduceLT, Nat.reduceLeDiff, Int.reduceLT, Int.reduceLE, Nat.zero_add, Nat.reduceAdd, Bool.false_eq_true, decide_eq_true_eq, decide_eq_false_iff_not, true_implies, false_implies, and_true, true_and, w5]
      exact h2 rfl v' H' ho' (hs'.keep ho hn)
    · have c8 : ((bits : Int) + 1 == 8) = false := by simp; omega
      have hh := h1 (by omega)
      have hbb : ((bits + 1 : Nat) : Int) = (bits : Int) + 1 := by omega
      rw [hbb] at hh
      simp only [xfm_Read_l0, ofArgs, run_seq, run_block, run_ops, run_skip, run_exit, run_ret, thenQ_normal, thenQ_exit, thenQ_ret, blockQ_normal, blockQ_exit, blockQ_ret, retQ_ret, retQ_normal, ops_nil, ops_none, got_some, ops_wT, ops_wTn, ops_wF, ops_wFn, ops_wU, dops_wT, dops_wTn, dops_wF, dops_wFn, dops_wU, run_condT, run_condF, alt2_int, altB_bool, altI_int, altBB_bool, v_min, v_max, v_not, v_neg, optEv_none, optEv_some, isSome'_none, isSome'_some, pExt0, pExt1, pExt2, Bool.false_and, Bool.true_and, Bool.not_true, Bool.not_false, cond_true, cond_false, dops_nil, dops_none, xval_call, v_mov, v_bin, v_len, v_ext, v_idxA, v_ld, v_st, v_app, v_appN, v_cvs, v_bs1, pBs1, v_slc, v_conv, v_fld, v_fldA, v_new, v_box, v_mks, v_copy, v_isnil, v_nilck, v_pick, ev, evs_nil, evs_cons, fr_get_cons, fr_put_nil, fr_put_cons, fr_put_some, fr_put_none, fr_keep_nil, fr_keep_cons, fr_has_nil, fr_has_cons, Option.bind_some, Option.map_some, xbin, ibin, xresult_eq, xress_nil, xress_tmp, resV, ex_some, if_true, if_false, ite_true, ite_false, reduceIte, reduceCtorEq, Nat.reduceEqDiff, Nat.reduceLT, Nat.reduceLeDiff, Int.reduceLT, Int.reduceLE, Nat.zero_add, Nat.reduceAdd, Bool.false_eq_true, decide_eq_true_eq, decide_eq_false_iff_not, true_implies, false_implies, and_true, true_and, e1, hlt, decide_true, w1, e2, e3, b21, w4, c8, w5]
      exact hh
  | true =>
    simp only [if_true, Bool.toNat_true] at h1 h2 hs
    have hlt : i < ((pre ++ ([1, 1] ++ suf)).length : Int) := by simp; omega
    have e2 := ints_idx hs i pre.length hi (by simp)
    have e3 := ints_ld hs pre.length 1 (by simp)
    have e2' := ints_idx hs (i + 1) (pre.length + 1) (by omega) (by simp)
    have e3' := ints_ld hs (pre.length + 1) 1 (by rw [List.getElem?_append_right (by omega)]; simp)
    have b11 : ((1 : Int) == 1) = true := rfl
    have b12 : ((1 : Int) != 1) = false := rfl
    have w2 := wrI ((cc : Int) * 2 + 1) (by omega) (by omega)
    have hne : (i + 1 == ((pre ++ ([1, 1] ++ suf)).length : Int)) = false := by simp; omega
    have hp : (((pre ++ [1, 1]).length : Nat) : Int) = i + 1 + 1 := by simp; omega
    rw [hp] at h1 h2
    have hcc2 : ((2 * cc + 1 : Nat) : Int) = (cc : Int) * 2 + 1 := by omega
    rw [hcc2] at h1 h2
    by_cases hb7 : bits = 7
    · subst hb7
      have c8 : (((7 : Nat) : Int) + 1 == 8) = true := rfl
      have wc := wrU8' ((cc : Int) * 2 + 1) (by omega) (by omega)
      simp only [xfm_Read_l0, ofArgs, run_seq, run_block, run_ops, run_skip, run_exit, run_ret, thenQ_normal, thenQ_exit, thenQ_ret, blockQ_normal, blockQ_exit, blockQ_ret, retQ_ret, retQ_normal, ops_nil, ops_none, got_some, ops_wT, ops_wTn, ops_wF, ops_wFn, ops_wU, dops_wT, dops_wTn, dops_wF, dops_wFn, dops_wU, run_condT, run_condF, alt2_int, altB_bool, altI_int, altBB_bool, v_min, v_max, v_not, v_neg, optEv_none, optEv_some, isSome'_none, isSome'_some, pExt0, pExt1, pExt2, Bool.false_and, Bool.true_and, Bool.not_true, Bool.not_false, cond_true, cond_false, dops_nil, dops_none, xval_call, v_mov, v_bin, v_len, v_ext, v_idxA, v_ld, v_st, v_app, v_appN, v_cvs, v_bs1, pBs1, v_slc, v_conv, v_fld, v_fldA, v_new, v_box, v_mks, v_copy, v_isnil, v_nilck, v_pick, ev, evs_nil, evs_cons, fr_get_cons, fr_put_nil, fr_put_cons, fr_put_some, fr_put_none, fr_keep_nil, fr_keep_cons, fr_has_nil, fr_has_cons, Option.bind_some, Option.map_some, xbin, ibin, xresult_eq, xress_nil, xress_tmp, resV, ex_some, if_true, if_false, ite_true, ite_false, reduceIte, reduceCtorEq, Nat.reduceEqDiff, Nat.reduceLT, Nat.reduceLeDiff, Int.reduceLT, Int.reduceLE, Nat.zero_add, Nat.reduceAdd, Bool.false_eq_true, decide_eq_true_eq, decide_eq_false_iff_not, true_implies, false_implies, and_true, true_and, e1, hlt, decide_true, w1, w2, e2, e3, e2', e3', b11, b12, hne, w4, w5, c8, pConv, wc]
      refine app_oneB ho hn (by omega) fun v' H' ho' hs' => ?_
      simp only [ofArgs, run_seq, run_block, run_ops, run_skip, run_exit, run_ret, thenQ_normal, thenQ_exit, thenQ_ret, blockQ_normal, blockQ_exit, blockQ_ret, retQ_ret, retQ_normal, ops_nil, ops_none, got_some, ops_wT, ops_wTn, ops_wF, ops_wFn, ops_wU, dops_wT, dops_wTn, dops_wF, dops_wFn, dops_wU, run_condT, run_condF, alt2_int, altB_bool, altI_int, altBB_bool, v_min, v_max, v_not, v_neg, optEv_none, optEv_some, isSome'_none, isSome'_some, pExt0, pExt1, pExt2, Bool.false_and, Bool.true_and, Bool.not_true, Bool.not_false, cond_true, cond_false, dops_nil, dops_none, xval_call, v_mov, v_bin, v_len, v_ext, v_idxA, v_ld, v_st, v_app, v_appN, v_cvs, v_bs1, pBs1, v_slc, v_conv, v_fld, v_fldA, v_new, v_box, v_mks, v_copy, v_isnil, v_nilck, v_pick, ev, evs_nil, evs_cons, fr_get_cons, fr_put_nil, fr_put_cons, fr_put_some, fr_put_none, fr_keep_nil, fr_keep_cons, fr_has_nil, fr_has_cons, Option.bind_some, Option.map_some, xbin, ibin, xresult_eq, xress_nil, xress_tmp, resV, ex_some, if_true, if_false, ite_true, ite_false, reduceIte, reduceCtorEq, Nat.reduceEqDiff, Nat.reduceLT, Nat.reduceLeDiff, Int.reduceLT, Int.reduceLE, Nat.zero_add, Nat.reduceAdd, Bool.false_eq_true, decide_eq_true_eq, decide_eq_false_iff_not, true_implies, false_implies, and_true, true_and, w6]
      exact h2 rfl v' H' ho' (hs'.keep ho hn)
    · have c8 : ((bits : Int) + 1 == 8) = false := by simp; omega
      have hh := h1 (by omega)
      have hbb : ((bits + 1 : Nat) : Int) = (bits : Int) + 1 := by omega
      rw [hbb] at hh
      simp only [xfm_Read_l0, ofArgs, run_seq, run_block, run_ops, run_skip, run_exit, run_ret, thenQ_normal, thenQ_exit, thenQ_ret, blockQ_normal, blockQ_exit, blockQ_ret, retQ_ret, retQ_normal, ops_nil, ops_none, got_some, ops_wT, ops_wTn, ops_wF, ops_wFn, ops_wU, dops_wT, dops_wTn, dops_wF, dops_wFn, dops_wU, run_condT, run_condF, alt2_int, altB_bool, altI_int, altBB_bool, v_min, v_max, v_not, v_neg, optEv_none, optEv_some, isSome'_none, isSome'_some, pExt0, pExt1, pExt2, Bool.false_and, Bool.true_and, Bool.not_true, Bool.not_false, cond_true, cond_false, dops_nil, dops_none, xval_call, v_mov, v_bin, v_len, v_ext, v_idxA, v_ld, v_st, v_app, v_appN, v_cvs, v_bs1, pBs1, v_slc, v_conv, v_fld, v_fldA, v_new, v_box, v_mks, v_copy, v_isnil, v_nilck, v_pick, ev, evs_nil, evs_cons, fr_get_cons, fr_put_nil, fr_put_cons, fr_put_some, fr_put_none, fr_keep_nil, fr_keep_cons, fr_has_nil, fr_has_cons, Option.bind_some, Option.map_some, xbin, ibin, xresult_eq, xress_nil, xress_tmp, resV, ex_some, if_true, if_false, ite_true, ite_false, reduceIte, reduceCtorEq, Nat.reduceEqDiff, Nat.reduceLT, Nat.reduceLeDiff, Int.reduceLT, Int.reduceLE, Nat.zero_add, Nat.reduceAdd, Bool.false_eq_true, decide_eq_true_eq, decide_eq_false_iff_not, true_implies, false_implies, and_true, true_and, e1, hlt, decide_true, w1, w2, e2, e3, e2', e3', b11, b12, hne, w4, c8, w5, w6]
      exact hh
end Go.Proofs.Ytkhjmmidaihbhaa.D
