/- What functions that the law reaches compute, on a heap of the run's own: the conditions stand in each theorem. -/
import Derived.Test.YtkhjmmidaihbhaaCrcJ
import Derived.Test.YtkhjmmidaihbhaaCrcL
import Derived.Test.YtkhjmmidaihbhaaDet24
set_option linter.unusedSimpArgs false
set_option linter.unusedVariables false
namespace Go.Proofs.Ytkhjmmidaihbhaa.D
open Go Go.Det

theorem equalB_l0 (s u : Value) (H : AH) (t : List Int) : ∀ (w pre qre : List Int) (i N : Int) (Q : XExit → Fr → AH → Prop), Byts H s (pre ++ t) → Byts H u (qre ++ w) → t.length = w.length → pre.length = qre.length → pre.length + t.length < 4611686018427387904 → i = (pre.length : Int) → N = ((pre ++ t).length : Int) →
    (t = w → Q (.exit 0) [(0, s), (1, u), (12, .int .i64 N), (13, .int .i64 N), (14, .bool false)] H) → (t ≠ w → Q .ret [(4, .bool false)] H) →
    Run Try.prog tab (.loop xslices_Equal_Sbyte_byte_l0) [(0, s), (1, u), (12, .int .i64 N), (13, .int .i64 i)] H Q := by
  induction t with
  | nil =>
    intro w pre qre i N Q hs hu hw hp hl hi hN hq hq2
    obtain rfl : w = [] := by cases w <;> simp_all
    rw [run_loop]
    generalize hL : XCode.loop xslices_Equal_Sbyte_byte_l0 = L
    have hiN : i = N := by simp at hN; omega
    subst hiN
    have hf : ¬ i < i := by omega
    simp only [xslices_Equal_Sbyte_byte_l0, ofArgs, run_seq, run_block, run_ops, run_skip, run_exit, run_ret, thenQ_normal, thenQ_exit, thenQ_ret, blockQ_normal, blockQ_exit, blockQ_ret, retQ_ret, retQ_normal, ops_nil, ops_none, got_some, ops_wT, ops_wTn, ops_wF, ops_wFn, ops_wU, dops_wT, dops_wTn, dops_wF, dops_wFn, dops_wU, run_condT, run_condF, alt2_int, altB_bool, altI_int, altBB_bool, v_min, v_max, v_not, v_neg, optEv_none, optEv_some, isSome'_none, isSome'_some, pExt0, pExt1, pExt2, Bool.false_and, Bool.true_and, Bool.not_true, Bool.not_false, cond_true, cond_false, dops_nil, dops_none, xval_call, v_mov, v_bin, v_len, v_ext, v_idxA, v_ld, v_st, v_app, v_appN, v_cvs, v_bs1, pBs1, v_slc, v_conv, v_fld, v_fldA, v_new, v_box, v_mks, v_copy, v_isnil, v_nilck, v_pick, ev, evs_nil, evs_cons, fr_get_cons, fr_put_nil, fr_put_cons, fr_put_some, fr_put_none, fr_keep_nil, fr_keep_cons, fr_has_nil, fr_has_cons, Option.bind_some, Option.map_some, xbin, ibin, xresult_eq, xress_nil, xress_tmp, resV, ex_some, if_true, if_false, ite_true, ite_false, reduceIte, reduceCtorEq, Nat.reduceEqDiff, Nat.reduceLT, Nat.reduceLeDiff, Int.reduceLT, Int.reduceLE, Nat.zero_add, Nat.reduceAdd, Bool.false_eq_true, decide_eq_true_eq, decide_eq_false_iff_not, true_implies, false_implies, and_true, true_and, hf, decide_false]
    simpa using hq rfl
  | cons a t ih =>
    intro w pre qre i N Q hs hu hw hp hl hi hN hq hq2
    cases w with
    | nil => simp at hw
    | cons b w =>
      simp only [List.length_cons] at hl hw
      rw [run_loop]
      generalize hL : XCode.loop xslices_Equal_Sbyte_byte_l0 = L
      have hlt : i < N := by simp at hN; omega
      have e1 := byts_idx hs i pre.length hi (by simp)
      have e2 := byts_ld hs pre.length a (by simp)
      have e3 := byts_idx hu i pre.length hi (by simp; omega)
      have e5 := byts_ld hu pre.length b (by simp [hp])
      have e4 := wrI (i + 1) (by omega) (by omega)
      simp only [xslices_Equal_Sbyte_byte_l0, ofArgs, run_seq, run_block, run_ops, run_skip, run_exit, run_ret, thenQ_normal, thenQ_exit, thenQ_ret, blockQ_normal, blockQ_exit, blockQ_ret, retQ_ret, retQ_normal, ops_nil, ops_none, got_some, ops_wT, ops_wTn, ops_wF, ops_wFn, ops_wU, dops_wT, dops_wTn, dops_wF, dops_wFn, dops_wU, run_condT, run_condF, alt2_int, altB_bool, altI_int, altBB_bool, v_min, v_max, v_not, v_neg, optEv_none, optEv_some, isSome'_none, isSome'_some, pExt0, pExt1, pExt2, Bool.false_and, Bool.true_and, Bool.not_true, Bool.not_false, cond_true, cond_false, dops_nil, dops_none, xval_call, v_mov, v_bin, v_len, v_ext, v_idxA, v_ld, v_st, v_app, v_appN, v_cvs, v_bs1, pBs1, v_slc, v_conv, v_fld, v_fldA, v_new, v_box, v_mks, v_copy, v_isnil, v_nilck, v_pick, ev, evs_nil, evs_cons, fr_get_cons, fr_put_nil, fr_put_cons, fr_put_some, fr_put_none, fr_keep_nil, fr_keep_cons, fr_has_nil, fr_has_cons, Option.bind_some, Option.map_some, xbin, ibin, xresult_eq, xress_nil, xress_tmp, resV, ex_some, if_true, if_false, ite_true, ite_false, reduceIte, reduceCtorEq, Nat.reduceEqDiff, Nat.reduceLT, Nat.reduceLeDiff, Int.reduceLT, Int.reduceLE, Nat.zero_add, Nat.reduceAdd, Bool.false_eq_true, decide_eq_true_eq, decide_eq_false_iff_not, true_implies, false_implies, and_true, true_and, hlt, decide_true]
      refine run_dops _ _ _ _ _ rfl ?_
      by_cases hab : a = b
      · subst hab
        simp only [ofArgs, run_seq, run_block, run_ops, run_skip, run_exit, run_ret, thenQ_normal, thenQ_exit, thenQ_ret, blockQ_normal, blockQ_exit, blockQ_ret, retQ_ret, retQ_normal, ops_nil, ops_none, got_some, ops_wT, ops_wTn, ops_wF, ops_wFn, ops_wU, dops_wT, dops_wTn, dops_wF, dops_wFn, dops_wU, run_condT, run_condF, alt2_int, altB_bool, altI_int, altBB_bool, v_min, v_max, v_not, v_neg, optEv_none, optEv_some, isSome'_none, isSome'_some, pExt0, pExt1, pExt2, Bool.false_and, Bool.true_and, Bool.not_true, Bool.not_false, cond_true, cond_false, dops_nil, dops_none, xval_call, v_mov, v_bin, v_len, v_ext, v_idxA, v_ld, v_st, v_app, v_appN, v_cvs, v_bs1, pBs1, v_slc, v_conv, v_fld, v_fldA, v_new, v_box, v_mks, v_copy, v_isnil, v_nilck, v_pick, ev, evs_nil, evs_cons, fr_get_cons, fr_put_nil, fr_put_cons, fr_put_some, fr_put_none, fr_keep_nil, fr_keep_cons, fr_has_nil, fr_has_cons, Option.bind_some, Option.map_some, xbin, ibin, xresult_eq, xress_nil, xress_tmp, resV, ex_some, if_true, if_false, ite_true, ite_false, reduceIte, reduceCtorEq, Nat.reduceEqDiff, Nat.reduceLT, Nat.reduceLeDiff, Int.reduceLT, Int.reduceLE, Nat.zero_add, Nat.reduceAdd, Bool.false_eq_true, decide_eq_true_eq, decide_eq_false_iff_not, true_implies, false_implies, and_true, true_and, e1, e2, e3, e5, e4, bne_self_eq_false]
        subst hL
        exact ih w (pre ++ [a]) (qre ++ [a]) (i + 1) N Q (Byts.app1 hs) (Byts.app1 hu) (by omega) (by simp; omega) (by simp; omega) (by simp; omega) (by simpa using hN) (fun h => hq (by rw [h])) (fun h => hq2 (by simpa using h))
      · have hne : (a != b) = true := by simpa using hab
        simp only [ofArgs, run_seq, run_block, run_ops, run_skip, run_exit, run_ret, thenQ_normal, thenQ_exit, thenQ_ret, blockQ_normal, blockQ_exit, blockQ_ret, retQ_ret, retQ_normal, ops_nil, ops_none, got_some, ops_wT, ops_wTn, ops_wF, ops_wFn, ops_wU, dops_wT, dops_wTn, dops_wF, dops_wFn, dops_wU, run_condT, run_condF, alt2_int, altB_bool, altI_int, altBB_bool, v_min, v_max, v_not, v_neg, optEv_none, optEv_some, isSome'_none, isSome'_some, pExt0, pExt1, pExt2, Bool.false_and, Bool.true_and, Bool.not_true, Bool.not_false, cond_true, cond_false, dops_nil, dops_none, xval_call, v_mov, v_bin, v_len, v_ext, v_idxA, v_ld, v_st, v_app, v_appN, v_cvs, v_bs1, pBs1, v_slc, v_conv, v_fld, v_fldA, v_new, v_box, v_mks, v_copy, v_isnil, v_nilck, v_pick, ev, evs_nil, evs_cons, fr_get_cons, fr_put_nil, fr_put_cons, fr_put_some, fr_put_none, fr_keep_nil, fr_keep_cons, fr_has_nil, fr_has_cons, Option.bind_some, Option.map_some, xbin, ibin, xresult_eq, xress_nil, xress_tmp, resV, ex_some, if_true, if_false, ite_true, ite_false, reduceIte, reduceCtorEq, Nat.reduceEqDiff, Nat.reduceLT, Nat.reduceLeDiff, Int.reduceLT, Int.reduceLE, Nat.zero_add, Nat.reduceAdd, Bool.false_eq_true, decide_eq_true_eq, decide_eq_false_iff_not, true_implies, false_implies, and_true, true_and, e1, e2, e3, e5, e4, hne]
        exact hq2 (by simp [hab])

theorem equalB_xc (t w : List Int) (s u : Value) (H : AH) (hs : Byts H s t) (hu : Byts H u w) (hl : t.length ≤ 1000000) (hl2 : w.length ≤ 1000000) : xc Try.prog tab 23 [s, u] H = some (.bool (decide (t = w)), H) := by
  refine got_xc (got_call (res := [.tmp 4]) rfl ?_)
  have e1 := byts_len' hs
  have e2 := byts_len' hu
  by_cases hlen : t.length = w.length
  · have hc : ((t.length : Int) != (w.length : Int)) = false := by simp [hlen]
    simp only [ofArgs, run_seq, run_block, run_ops, run_skip, run_exit, run_ret, thenQ_normal, thenQ_exit, thenQ_ret, blockQ_normal, blockQ_exit, blockQ_ret, retQ_ret, retQ_normal, ops_nil, ops_none, got_some, ops_wT, ops_wTn, ops_wF, ops_wFn, ops_wU, dops_wT, dops_wTn, dops_wF, dops_wFn, dops_wU, run_condT, run_condF, alt2_int, altB_bool, altI_int, altBB_bool, v_min, v_max, v_not, v_neg, optEv_none, optEv_some, isSome'_none, isSome'_some, pExt0, pExt1, pExt2, Bool.false_and, Bool.true_and, Bool.not_true, Bool.not_false, cond_true, cond_false, dops_nil, dops_none, xval_call, v_mov, v_bin, v_len, v_ext, v_idxA, v_ld, v_st, v_app, v_appN, v_cvs, v_bs1, pBs1, v_slc, v_conv, v_fld, v_fldA, v_new, v_box, v_mks, v_copy, v_isnil, v_nilck, v_pick, ev, evs_nil, evs_cons, fr_get_cons, fr_put_nil, fr_put_cons, fr_put_some, fr_put_none, fr_keep_nil, fr_keep_cons, fr_has_nil, fr_has_cons, Option.bind_some, Option.map_some, xbin, ibin, xresult_eq, xress_nil, xress_tmp, resV, ex_some, if_true, if_false, ite_true, ite_false, reduceIte, reduceCtorEq, Nat.reduceEqDiff, Nat.reduceLT, Nat.reduceLeDiff, Int.reduceLT, Int.reduceLE, Nat.zero_add, Nat.reduceAdd, Bool.false_eq_true, decide_eq_true_eq, decide_eq_false_iff_not, true_implies, false_implies, and_true, true_and, e1, e2, hc]
    refine equalB_l0 s u H t w [] [] _ _ _ hs hu hlen rfl (by simp; omega) (by simp) (by simp) ?_ ?_
    · intro h
      simp only [ofArgs, run_seq, run_block, run_ops, run_skip, run_exit, run_ret, thenQ_normal, thenQ_exit, thenQ_ret, blockQ_normal, blockQ_exit, blockQ_ret, retQ_ret, retQ_normal, ops_nil, ops_none, got_some, ops_wT, ops_wTn, ops_wF, ops_wFn, ops_wU, dops_wT, dops_wTn, dops_wF, dops_wFn, dops_wU, run_condT, run_condF, alt2_int, altB_bool, altI_int, altBB_bool, v_min, v_max, v_not, v_neg, optEv_none, optEv_some, isSome'_none, isSome'_some, pExt0, pExt1, pExt2, Bool.false_and, Bool.true_and, Bool.not_true, Bool.not_false, cond_true, cond_false, dops_nil, dops_none, xval_call, v_mov, v_bin, v_len, v_ext, v_idxA, v_ld, v_st, v_app, v_appN, v_cvs, v_bs1, pBs1, v_slc, v_conv, v_fld, v_fldA, v_new, v_box, v_mks, v_copy, v_isnil, v_nilck, v_pick, ev, evs_nil, evs_cons, fr_get_cons, fr_put_nil, fr_put_cons, fr_put_some, fr_put_none, fr_keep_nil, fr_keep_cons, fr_has_nil, fr_has_cons, Option.bind_some, Option.map_some, xbin, ibin, xresult_eq, xress_nil, xress_tmp, resV, ex_some, if_true, if_false, ite_true, ite_false, reduceIte, reduceCtorEq, Nat.reduceEqDiff, Nat.reduceLT, Nat.reduceLeDiff, Int.reduceLT, Int.reduceLE, Nat.zero_add, Nat.reduceAdd, Bool.false_eq_true, decide_eq_true_eq, decide_eq_false_iff_not, true_implies, false_implies, and_true, true_and, h, decide_true]
    · intro h
      simp only [ofArgs, run_seq, run_block, run_ops, run_skip, run_exit, run_ret, thenQ_normal, thenQ_exit, thenQ_ret, blockQ_normal, blockQ_exit, blockQ_ret, retQ_ret, retQ_normal, ops_nil, ops_none, got_some, ops_wT, ops_wTn, ops_wF, ops_wFn, ops_wU, dops_wT, dops_wTn, dops_wF, dops_wFn, dops_wU, run_condT, run_condF, alt2_int, altB_bool, altI_int, altBB_bool, v_min, v_max, v_not, v_neg, optEv_none, optEv_some, isSome'_none, isSome'_some, pExt0, pExt1, pExt2, Bool.false_and, Bool.true_and, Bool.not_true, Bool.not_false, cond_true, cond_false, dops_nil, dops_none, xval_call, v_mov, v_bin, v_len, v_ext, v_idxA, v_ld, v_st, v_app, v_appN, v_cvs, v_bs1, pBs1, v_slc, v_conv, v_fld, v_fldA, v_new, v_box, v_mks, v_copy, v_isnil, v_nilck, v_pick, ev, evs_nil, evs_cons, fr_get_cons, fr_put_nil, fr_put_cons, fr_put_some, fr_put_none, fr_keep_nil, fr_keep_cons, fr_has_nil, fr_has_cons, Option.bind_some, Option.map_some, xbin, ibin, xresult_eq, xress_nil, xress_tmp, resV, ex_some, if_true, if_false, ite_true, ite_false, reduceIte, reduceCtorEq, Nat.reduceEqDiff, Nat.reduceLT, Nat.reduceLeDiff, Int.reduceLT, Int.reduceLE, Nat.zero_add, Nat.reduceAdd, Bool.false_eq_true, decide_eq_true_eq, decide_eq_false_iff_not, true_implies, false_implies, and_true, true_and, h, decide_false]
  · have hc : ((t.length : Int) != (w.length : Int)) = true := by simp; omega
    have hne : ¬ t = w := fun h => hlen (by rw [h])
    simp only [ofArgs, run_seq, run_block, run_ops, run_skip, run_exit, run_ret, thenQ_normal, thenQ_exit, thenQ_ret, blockQ_normal, blockQ_exit, blockQ_ret, retQ_ret, retQ_normal, ops_nil, ops_none, got_some, ops_wT, ops_wTn, ops_wF, ops_wFn, ops_wU, dops_wT, dops_wTn, dops_wF, dops_wFn, dops_wU, run_condT, run_condF, alt2_int, altB_bool, altI_int, altBB_bool, v_min, v_max, v_not, v_neg, optEv_none, optEv_some, isSome'_none, isSome'_some, pExt0, pExt1, pExt2, Bool.false_and, Bool.true_and, Bool.not_true, Bool.not_false, cond_true, cond_false, dops_nil, dops_none, xval_call, v_mov, v_bin, v_len, v_ext, v_idxA, v_ld, v_st, v_app, v_appN, v_cvs, v_bs1, pBs1, v_slc, v_conv, v_fld, v_fldA, v_new, v_box, v_mks, v_copy, v_isnil, v_nilck, v_pick, ev, evs_nil, evs_cons, fr_get_cons, fr_put_nil, fr_put_cons, fr_put_some, fr_put_none, fr_keep_nil, fr_keep_cons, fr_has_nil, fr_has_cons, Option.bind_some, Option.map_some, xbin, ibin, xresult_eq, xress_nil, xress_tmp, resV, ex_some, if_true, if_false, ite_true, ite_false, reduceIte, reduceCtorEq, Nat.reduceEqDiff, Nat.reduceLT, Nat.reduceLeDiff, Int.reduceLT, Int.reduceLE, Nat.zero_add, Nat.reduceAdd, Bool.false_eq_true, decide_eq_true_eq, decide_eq_false_iff_not, true_implies, false_implies, and_true, true_and, e1, e2, hc, hne, decide_false]


theorem appB {n0 : Nat} {H : AH} {v y : Value} {l m : List Int} {Q : Value → AH → Prop} (ho : OwnB n0 H v l) (hn : n0 ≤ H.n) (hs : Byts H y m) (hl : l.length + m.length ≤ 1000000000)
    (hq : ∀ v' H', OwnB n0 H' v' (l ++ m) → Stp v H v' H' → Q v' H') : Got (xapp H 1 1 v y) Q := by
  refine xapp_own ho hn hs (u8s_one m) (Nat.le_refl _) (Nat.le_refl _) (by omega) ?_
  intro v' H' o s
  refine hq v' H' ?_ s
  unfold OwnB
  simpa using o

theorem clone_ok (l : List Int) (hl : l.length ≤ 1000000) (s : Value) (H : AH) (Q : Value → AH → Prop) (hs : Byts H s l) (hnn : ∃ B o l c, s = .slice (some ⟨B, o, none⟩) l c)
    (hq : ∀ v H', OwnB H.n H' v l → HExt H H' → Q v H') : Got (xc Try.prog tab 25 [s] H) Q := by
  refine got_call (res := [.tmp 2]) rfl ?_
  obtain ⟨B, o, n, c, rfl⟩ := hnn
  have e1 : xisnil (.slice none 0 0) (.slice (some ⟨B, o, none⟩) n c) = some false := rfl
  simp only [ofArgs, run_seq, run_block, run_ops, run_skip, run_exit, run_ret, thenQ_normal, thenQ_exit, thenQ_ret, blockQ_normal, blockQ_exit, blockQ_ret, retQ_ret, retQ_normal, ops_nil, ops_none, got_some, ops_wT, ops_wTn, ops_wF, ops_wFn, ops_wU, dops_wT, dops_wTn, dops_wF, dops_wFn, dops_wU, run_condT, run_condF, alt2_int, altB_bool, altI_int, altBB_bool, v_min, v_max, v_not, v_neg, optEv_none, optEv_some, isSome'_none, isSome'_some, pExt0, pExt1, pExt2, Bool.false_and, Bool.true_and, Bool.not_true, Bool.not_false, cond_true, cond_false, dops_nil, dops_none, xval_call, v_mov, v_bin, v_len, v_ext, v_idxA, v_ld, v_st, v_app, v_appN, v_cvs, v_bs1, pBs1, v_slc, v_conv, v_fld, v_fldA, v_new, v_box, v_mks, v_copy, v_isnil, v_nilck, v_pick, ev, evs_nil, evs_cons, fr_get_cons, fr_put_nil, fr_put_cons, fr_put_some, fr_put_none, fr_keep_nil, fr_keep_cons, fr_has_nil, fr_has_cons, Option.bind_some, Option.map_some, xbin, ibin, xresult_eq, xress_nil, xress_tmp, resV, ex_some, if_true, if_false, ite_true, ite_false, reduceIte, reduceCtorEq, Nat.reduceEqDiff, Nat.reduceLT, Nat.reduceLeDiff, Int.reduceLT, Int.reduceLE, Nat.zero_add, Nat.reduceAdd, Bool.false_eq_true, decide_eq_true_eq, decide_eq_false_iff_not, true_implies, false_implies, and_true, true_and, e1, v_bs0]
  refine appB (l := []) (own_bs0 H) (by simp) (Sl.ext (hext_push _ _) hs) (by simp; omega) ?_
  intro v H' o' s'
  exact hq v H' (by simpa using o') (Keep.trans (n0 := H.n) (hext_push H _) (s'.keep (own_bs0 H) (by simp)))

theorem wrap8_hi (n : Nat) (h : n < 65536) : IntKind.u8.wrap (((n : Int)).fdiv (2 ^ 8)) = ((n / 256 : Nat) : Int) := by
  rw [shrN, Nat.shiftRight_eq_div_pow, wrU8' _ (by omega) (by omega)]
theorem wrap8_lo (n : Nat) : IntKind.u8.wrap (n : Int) = ((n % 256 : Nat) : Int) := by
  rw [wrU8m]; omega

def sealed (l : List Int) : List Int := l ++ [((crcFold 65535 l / 256 : Nat) : Int), ((crcFold 65535 l % 256 : Nat) : Int)]
theorem sealed_len (l : List Int) : (sealed l).length = l.length + 2 := by simp [sealed]
theorem sealed_b8 (l : List Int) (hb : B8 l) : B8 (sealed l) := by
  have := crcFold_lt l hb 65535 (by omega)
  intro b h
  unfold sealed at h
  rcases List.mem_append.1 h with h | h
  · exact hb b h
  · simp at h; omega

theorem seal_ok (l : List Int) (hl : l.length ≤ 100000) (hb : B8 l) (s : Value) (H : AH) (Q : Value → AH → Prop) (hs : Byts H s l)
    (hq : ∀ v H', OwnB H.n H' v (sealed l) → HExt H H' → Q v H') : Got (xc Try.prog tab 21 [s] H) Q := by
  refine got_call (res := [.tmp 2]) rfl ?_
  have e1 := sum16_xc l s H hs hb (by omega)
  have hlt := crcFold_lt l hb 65535 (by omega)
  unfold sealed at hq
  generalize crcFold 65535 l = n at e1 hlt hq
  simp only [ofArgs, run_seq, run_block, run_ops, run_skip, run_exit, run_ret, thenQ_normal, thenQ_exit, thenQ_ret, blockQ_normal, blockQ_exit, blockQ_ret, retQ_ret, retQ_normal, ops_nil, ops_none, got_some, ops_wT, ops_wTn, ops_wF, ops_wFn, ops_wU, dops_wT, dops_wTn, dops_wF, dops_wFn, dops_wU, run_condT, run_condF, alt2_int, altB_bool, altI_int, altBB_bool, v_min, v_max, v_not, v_neg, optEv_none, optEv_some, isSome'_none, isSome'_some, pExt0, pExt1, pExt2, Bool.false_and, Bool.true_and, Bool.not_true, Bool.not_false, cond_true, cond_false, dops_nil, dops_none, xval_call, v_mov, v_bin, v_len, v_ext, v_idxA, v_ld, v_st, v_app, v_appN, v_cvs, v_bs1, pBs1, v_slc, v_conv, v_fld, v_fldA, v_new, v_box, v_mks, v_copy, v_isnil, v_nilck, v_pick, ev, evs_nil, evs_cons, fr_get_cons, fr_put_nil, fr_put_cons, fr_put_some, fr_put_none, fr_keep_nil, fr_keep_cons, fr_has_nil, fr_has_cons, Option.bind_some, Option.map_some, xbin, ibin, xresult_eq, xress_nil, xress_tmp, resV, ex_some, if_true, if_false, ite_true, ite_false, reduceIte, reduceCtorEq, Nat.reduceEqDiff, Nat.reduceLT, Nat.reduceLeDiff, Int.reduceLT, Int.reduceLE, Nat.zero_add, Nat.reduceAdd, Bool.false_eq_true, decide_eq_true_eq, decide_eq_false_iff_not, true_implies, false_implies, and_true, true_and, e1, v_bs0]
  refine appB (l := []) (own_bs0 H) (by simp) (Sl.ext (hext_push _ _) hs) (by simp; omega) ?_
  intro v1 H1 o1 s1
  have x1 : HExt H H1 := Keep.trans (n0 := H.n) (hext_push H _) (s1.keep (own_bs0 H) (by simp))
  have s8 : min (Int.toNat 8) IntKind.i64.bits = 8 := rfl
  have c0 : ¬ ((8 : Int) < 0) := by omega
  have e3 := wrap8_hi n hlt
  have e4 := wrap8_lo n
  have eb : ∀ (fr : Fr) (H : AH), ev fr (.tmp 11) = some (.int .u8 ((n / 256 : Nat) : Int)) → ev fr (.tmp 13) = some (.int .u8 ((n % 256 : Nat) : Int)) → xval Try.prog (xc Try.prog tab) ⟨some 14, .bslice 5 1 2 [.int .u8 0] [(0, .tmp 11), (1, .tmp 13)], none⟩ fr H = some (.slice (some ⟨H.n, 0, none⟩) 2 2, H.push ⟨[.int .u8 ((n / 256 : Nat) : Int), .int .u8 ((n % 256 : Nat) : Int)], 1, false, false⟩) :=
    fun fr H h1 h2 => v_bsl2 fr H (some 14) 5 _ _ _ _ _ h1 h2 rfl rfl rfl rfl
  simp only [ofArgs, run_seq, run_block, run_ops, run_skip, run_exit, run_ret, thenQ_normal, thenQ_exit, thenQ_ret, blockQ_normal, blockQ_exit, blockQ_ret, retQ_ret, retQ_normal, ops_nil, ops_none, got_some, ops_wT, ops_wTn, ops_wF, ops_wFn, ops_wU, dops_wT, dops_wTn, dops_wF, dops_wFn, dops_wU, run_condT, run_condF, alt2_int, altB_bool, altI_int, altBB_bool, v_min, v_max, v_not, v_neg, optEv_none, optEv_some, isSome'_none, isSome'_some, pExt0, pExt1, pExt2, Bool.false_and, Bool.true_and, Bool.not_true, Bool.not_false, cond_true, cond_false, dops_nil, dops_none, xval_call, v_mov, v_bin, v_len, v_ext, v_idxA, v_ld, v_st, v_app, v_appN, v_cvs, v_bs1, pBs1, v_slc, v_conv, v_fld, v_fldA, v_new, v_box, v_mks, v_copy, v_isnil, v_nilck, v_pick, ev, evs_nil, evs_cons, fr_get_cons, fr_put_nil, fr_put_cons, fr_put_some, fr_put_none, fr_keep_nil, fr_keep_cons, fr_has_nil, fr_has_cons, Option.bind_some, Option.map_some, xbin, ibin, xresult_eq, xress_nil, xress_tmp, resV, ex_some, if_true, if_false, ite_true, ite_false, reduceIte, reduceCtorEq, Nat.reduceEqDiff, Nat.reduceLT, Nat.reduceLeDiff, Int.reduceLT, Int.reduceLE, Nat.zero_add, Nat.reduceAdd, Bool.false_eq_true, decide_eq_true_eq, decide_eq_false_iff_not, true_implies, false_implies, and_true, true_and, s8, c0, pConv, e3, e4, eb]
  have hp : Byts (H1.push ⟨[.int .u8 ((n / 256 : Nat) : Int), .int .u8 ((n % 256 : Nat) : Int)], 1, false, false⟩) (.slice (some ⟨H1.n, 0, none⟩) 2 2) [((n / 256 : Nat) : Int), ((n % 256 : Nat) : Int)] := Sl.pushed H1 _ 1 2 false false rfl
  have o1' : OwnB H.n (H1.push ⟨[.int .u8 ((n / 256 : Nat) : Int), .int .u8 ((n % 256 : Nat) : Int)], 1, false, false⟩) v1 ([] ++ l) := Own.ext (hext_push _ _) o1
  refine appB o1' (by have := x1.1; simp; omega) hp (by simp; omega) ?_
  intro v2 H2 o2 s2
  exact hq v2 H2 (by simpa using o2) (Keep.trans (n0 := H.n) (x1.trans (hext_push H1 _)) (s2.keep o1' (by have := x1.1; simp; omega)))

theorem open_bad (l : List Int) (hl : l.length ≤ 100000) (hl2 : 2 ≤ l.length) (hb : B8 l) (s : Value) (H : AH) (hs : Byts H s l) (hz : crcFold 65535 l ≠ 0) :
    xc Try.prog tab 22 [s] H = some (.tuple [.slice none 0 0, .bool false].toArray, H) := by
  refine got_xc (got_call (res := [.tmp 2, .tmp 3]) rfl ?_)
  have e1 := sum16_xc l s H hs hb (by omega)
  have e2 := byts_len' hs
  have c1 : ¬ ((l.length : Int) < 2) := by omega
  generalize crcFold 65535 l = n at e1 hz
  have c2 : ((n : Int) != 0) = true := by simp; omega
  simp only [ofArgs, run_seq, run_block, run_ops, run_skip, run_exit, run_ret, thenQ_normal, thenQ_exit, thenQ_ret, blockQ_normal, blockQ_exit, blockQ_ret, retQ_ret, retQ_normal, ops_nil, ops_none, got_some, ops_wT, ops_wTn, ops_wF, ops_wFn, ops_wU, dops_wT, dops_wTn, dops_wF, dops_wFn, dops_wU, run_condT, run_condF, alt2_int, altB_bool, altI_int, altBB_bool, v_min, v_max, v_not, v_neg, optEv_none, optEv_some, isSome'_none, isSome'_some, pExt0, pExt1, pExt2, Bool.false_and, Bool.true_and, Bool.not_true, Bool.not_false, cond_true, cond_false, dops_nil, dops_none, xval_call, v_mov, v_bin, v_len, v_ext, v_idxA, v_ld, v_st, v_app, v_appN, v_cvs, v_bs1, pBs1, v_slc, v_conv, v_fld, v_fldA, v_new, v_box, v_mks, v_copy, v_isnil, v_nilck, v_pick, ev, evs_nil, evs_cons, fr_get_cons, fr_put_nil, fr_put_cons, fr_put_some, fr_put_none, fr_keep_nil, fr_keep_cons, fr_has_nil, fr_has_cons, Option.bind_some, Option.map_some, xbin, ibin, xresult_eq, xress_nil, xress_tmp, resV, ex_some, if_true, if_false, ite_true, ite_false, reduceIte, reduceCtorEq, Nat.reduceEqDiff, Nat.reduceLT, Nat.reduceLeDiff, Int.reduceLT, Int.reduceLE, Nat.zero_add, Nat.reduceAdd, Bool.false_eq_true, decide_eq_true_eq, decide_eq_false_iff_not, true_implies, false_implies, and_true, true_and, e1, e2, c1, c2, decide_false]

theorem open_ok (l : List Int) (hl : l.length ≤ 100000) (hl2 : 2 ≤ l.length) (hb : B8 l) (s : Value) (H : AH) (Q : Value → AH → Prop) (hs : Byts H s l) (hz : crcFold 65535 l = 0)
    (hq : ∀ v H', OwnB H.n H' v (l.take (l.length - 2)) → HExt H H' → Q (.tuple [v, .bool true].toArray) H') : Got (xc Try.prog tab 22 [s] H) Q := by
  refine got_call (res := [.tmp 2, .tmp 3]) rfl ?_
  have e1 := sum16_xc l s H hs hb (by omega)
  rw [hz] at e1
  have e2 := fun H' (hx : HExt H H') => byts_len' (Sl.ext hx hs : Byts H' s l)
  have c1 : ¬ ((l.length : Int) < 2) := by omega
  have c2 : (((0 : Nat) : Int) != 0) = false := rfl
  have w1 := wrI ((l.length : Int) - 2) (by omega) (by omega)
  have e3 : (l.length : Int) - 2 = ((l.length - 2 : Nat) : Int) := by omega
  rw [e3] at w1
  have e2a := e2 H (.refl H)
  have e2b := e2 (H.push ⟨[], 1, false, false⟩) (hext_push _ _)
  have hs' : Byts (H.push ⟨[], 1, false, false⟩) s l := Sl.ext (hext_push _ _) hs
  obtain ⟨s', k1, k2, k3, k4⟩ := xslc_ok (lo := none) (hi := some (.int .i64 ((l.length - 2 : Nat) : Int))) (i := 0) (h := l.length - 2) hs' rfl rfl (Nat.zero_le _) (by omega)
  have k2' : Byts (H.push ⟨[], 1, false, false⟩) s' (l.take (l.length - 2)) := by
    unfold Byts
    have hlen : (l.take (l.length - 2)).length = l.length - 2 := by simp
    rw [hlen]
    simpa [List.map_take] using k2
  simp only [ofArgs, run_seq, run_block, run_ops, run_skip, run_exit, run_ret, thenQ_normal, thenQ_exit, thenQ_ret, blockQ_normal, blockQ_exit, blockQ_ret, retQ_ret, retQ_normal, ops_nil, ops_none, got_some, ops_wT, ops_wTn, ops_wF, ops_wFn, ops_wU, dops_wT, dops_wTn, dops_wF, dops_wFn, dops_wU, run_condT, run_condF, alt2_int, altB_bool, altI_int, altBB_bool, v_min, v_max, v_not, v_neg, optEv_none, optEv_some, isSome'_none, isSome'_some, pExt0, pExt1, pExt2, Bool.false_and, Bool.true_and, Bool.not_true, Bool.not_false, cond_true, cond_false, dops_nil, dops_none, xval_call, v_mov, v_bin, v_len, v_ext, v_idxA, v_ld, v_st, v_app, v_appN, v_cvs, v_bs1, pBs1, v_slc, v_conv, v_fld, v_fldA, v_new, v_box, v_mks, v_copy, v_isnil, v_nilck, v_pick, ev, evs_nil, evs_cons, fr_get_cons, fr_put_nil, fr_put_cons, fr_put_some, fr_put_none, fr_keep_nil, fr_keep_cons, fr_has_nil, fr_has_cons, Option.bind_some, Option.map_some, xbin, ibin, xresult_eq, xress_nil, xress_tmp, resV, ex_some, if_true, if_false, ite_true, ite_false, reduceIte, reduceCtorEq, Nat.reduceEqDiff, Nat.reduceLT, Nat.reduceLeDiff, Int.reduceLT, Int.reduceLE, Nat.zero_add, Nat.reduceAdd, Bool.false_eq_true, decide_eq_true_eq, decide_eq_false_iff_not, true_implies, false_implies, and_true, true_and, e1, e2a, e2b, c1, c2, decide_false, v_bs0, e3, w1, k1]
  refine appB (l := []) (own_bs0 H) (by simp) k2' (by simp; omega) ?_
  intro v H' o' st
  exact hq v H' (by simpa using o') (Keep.trans (n0 := H.n) (hext_push H _) (st.keep (own_bs0 H) (by simp)))

theorem getD_get (l : List Int) (q : Nat) (h : q < l.length) : l[q]? = some (l.getD q 0) := by
  rw [List.getD_eq_getElem?_getD, List.getElem?_eq_getElem h]; rfl

theorem burst_l0 (va vb : Value) (a b : List Int) (H : AH) (ha : Byts H va a) (hb : Byts H vb b) (a8 : B8 a) (b8 : B8 b) (hl : a.length = b.length) (hl2 : a.length ≤ 1000000) (N : Int) (hN : N = 8 * (a.length : Int)) (r : Nat) :
    ∀ (k : Nat) (i : Int) (Q : XExit → Fr → AH → Prop), k + r = 8 * a.length → i = (k : Int) →
    Q (.exit 0) [(0, va), (1, vb), (5, .int .i64 (bf (fun i => bitAt a i ^^ bitAt b i) (8 * a.length)).1), (6, .int .i64 (bf (fun i => bitAt a i ^^ bitAt b i) (8 * a.length)).2), (15, .int .i64 N), (16, .int .i64 N), (17, .bool false)] H →
    Run Try.prog tab (.loop xcrc_Burst_l0) [(0, va), (1, vb), (5, .int .i64 (bf (fun i => bitAt a i ^^ bitAt b i) k).1), (6, .int .i64 (bf (fun i => bitAt a i ^^ bitAt b i) k).2), (15, .int .i64 N), (16, .int .i64 i)] H Q := by
  induction r with
  | zero =>
    intro k i Q hk hi hq
    rw [run_loop]
    generalize hL : XCode.loop xcrc_Burst_l0 = L
    have hiN : i = N := by omega
    subst hiN
    have hf : ¬ i < i := by omega
    have e : k = 8 * a.length := by omega
    rw [e]
    simp only [xcrc_Burst_l0, ofArgs, run_seq, run_block, run_ops, run_skip, run_exit, run_ret, thenQ_normal, thenQ_exit, thenQ_ret, blockQ_normal, blockQ_exit, blockQ_ret, retQ_ret, retQ_normal, ops_nil, ops_none, got_some, ops_wT, ops_wTn, ops_wF, ops_wFn, ops_wU, dops_wT, dops_wTn, dops_wF, dops_wFn, dops_wU, run_condT, run_condF, alt2_int, altB_bool, altI_int, altBB_bool, v_min, v_max, v_not, v_neg, optEv_none, optEv_some, isSome'_none, isSome'_some, pExt0, pExt1, pExt2, Bool.false_and, Bool.true_and, Bool.not_true, Bool.not_false, cond_true, cond_false, dops_nil, dops_none, xval_call, v_mov, v_bin, v_len, v_ext, v_idxA, v_ld, v_st, v_app, v_appN, v_cvs, v_bs1, pBs1, v_slc, v_conv, v_fld, v_fldA, v_new, v_box, v_mks, v_copy, v_isnil, v_nilck, v_pick, ev, evs_nil, evs_cons, fr_get_cons, fr_put_nil, fr_put_cons, fr_put_some, fr_put_none, fr_keep_nil, fr_keep_cons, fr_has_nil, fr_has_cons, Option.bind_some, Option.map_some, xbin, ibin, xresult_eq, xress_nil, xress_tmp, resV, ex_some, if_true, if_false, ite_true, ite_false, reduceIte, reduceCtorEq, Nat.reduceEqDiff, Nat.reduceLT, Nat.reduceLeDiff, Int.reduceLT, Int.reduceLE, Nat.zero_add, Nat.reduceAdd, Bool.false_eq_true, decide_eq_true_eq, decide_eq_false_iff_not, true_implies, false_implies, and_true, true_and, hf, decide_false]
    exact hq
  | succ r ih =>
    intro k i Q hk hi hq
    have ih' := ih (k + 1) (i + 1) Q (by omega) (by omega) hq
    have hr := bf_range (fun i => bitAt a i ^^ bitAt b i) k
    rw [run_loop]
    generalize hL : XCode.loop xcrc_Burst_l0 = L
    rw [hL] at ih'
    have hlt : i < N := by omega
    have g1 := getD_get a (k / 8) (by omega)
    have g2 := getD_get b (k / 8) (by omega)
    have p1 := b8_get a a8 (k / 8)
    have p2 := b8_get b b8 (k / 8)
    have eb : (bitAt a k ^^ bitAt b k) = ((a.getD (k / 8) 0).toNat ^^^ (b.getD (k / 8) 0).toNat).testBit (7 - k % 8) := by
      rw [Nat.testBit_xor]; rfl
    have ey : (bf (fun i => bitAt a i ^^ bitAt b i) (k + 1)) = if ((a.getD (k / 8) 0).toNat ^^^ (b.getD (k / 8) 0).toNat).testBit (7 - k % 8) = true then (if (bf (fun i => bitAt a i ^^ bitAt b i) k).1 < 0 then (k : Int) else (bf (fun i => bitAt a i ^^ bitAt b i) k).1, (k : Int)) else bf (fun i => bitAt a i ^^ bitAt b i) k := by
      rw [← eb]; rfl
    rw [ey] at ih'
    generalize bf (fun i => bitAt a i ^^ bitAt b i) k = fl at ih' hr
    obtain ⟨f, l⟩ := fl
    clear ih hq ey eb
    have hx : ∃ x : Nat, a.getD (k / 8) 0 = (x : Int) ∧ x < 256 := ⟨(a.getD (k / 8) 0).toNat, by omega, by omega⟩
    have hy : ∃ y : Nat, b.getD (k / 8) 0 = (y : Int) ∧ y < 256 := ⟨(b.getD (k / 8) 0).toNat, by omega, by omega⟩
    obtain ⟨x, hx, hx2⟩ := hx
    obtain ⟨y, hy, hy2⟩ := hy
    rw [hx] at g1 ih'
    rw [hy] at g2 ih'
    simp only [Int.toNat_natCast] at ih' hr
    have q8 : ¬ ((8 : Int) = 0) := by omega
    have t1 : Int.tdiv i 8 = ((k / 8 : Nat) : Int) := by rw [Int.tdiv_eq_ediv_of_nonneg (by omega)]; omega
    have t2 : Int.tmod i 8 = ((k % 8 : Nat) : Int) := by rw [Int.tmod_eq_emod_of_nonneg (by omega)]; omega
    have t3 := wrI ((k / 8 : Nat) : Int) (by omega) (by omega)
    have t4 : IntKind.i64.wrap (7 - ((k % 8 : Nat) : Int)) = ((7 - k % 8 : Nat) : Int) := by rw [wrI _ (by omega) (by omega)]; omega
    have e1 := byts_idx ha ((k / 8 : Nat) : Int) (k / 8) rfl (by omega)
    have e2 := byts_ld ha (k / 8) x g1
    have e3 := byts_idx hb ((k / 8 : Nat) : Int) (k / 8) rfl (by omega)
    have e5 := byts_ld hb (k / 8) y g2
    have e4 := wrI (i + 1) (by omega) (by omega)
    have b1 := b_xor x y hx2 hy2
    have t5 : ¬ (((7 - k % 8 : Nat) : Int) < 0) := by omega
    have t6 : min (Int.toNat ((7 - k % 8 : Nat) : Int)) IntKind.u8.bits = 7 - k % 8 := by
      rw [Int.toNat_natCast]; show min _ 8 = _; omega
    have b2 := shrN (x ^^^ y) (7 - k % 8)
    have hxy := x8 hx2 hy2
    have b3 := b_and ((x ^^^ y) >>> (7 - k % 8)) 1 (by rw [Nat.shiftRight_eq_div_pow]; exact Nat.lt_of_le_of_lt (Nat.div_le_self _ _) hxy) (by omega)
    have b4 := and1 (x ^^^ y) (7 - k % 8)
    have n1 : ((1 : Nat) : Int) = 1 := rfl
    rw [n1] at b3
    simp only [xcrc_Burst_l0, ofArgs, run_seq, run_block, run_ops, run_skip, run_exit, run_ret, thenQ_normal, thenQ_exit, thenQ_ret, blockQ_normal, blockQ_exit, blockQ_ret, retQ_ret, retQ_normal, ops_nil, ops_none, got_some, ops_wT, ops_wTn, ops_wF, ops_wFn, ops_wU, dops_wT, dops_wTn, dops_wF, dops_wFn, dops_wU, run_condT, run_condF, alt2_int, altB_bool, altI_int, altBB_bool, v_min, v_max, v_not, v_neg, optEv_none, optEv_some, isSome'_none, isSome'_some, pExt0, pExt1, pExt2, Bool.false_and, Bool.true_and, Bool.not_true, Bool.not_false, cond_true, cond_false, dops_nil, dops_none, xval_call, v_mov, v_bin, v_len, v_ext, v_idxA, v_ld, v_st, v_app, v_appN, v_cvs, v_bs1, pBs1, v_slc, v_conv, v_fld, v_fldA, v_new, v_box, v_mks, v_copy, v_isnil, v_nilck, v_pick, ev, evs_nil, evs_cons, fr_get_cons, fr_put_nil, fr_put_cons, fr_put_some, fr_put_none, fr_keep_nil, fr_keep_cons, fr_has_nil, fr_has_cons, Option.bind_some, Option.map_some, xbin, ibin, xresult_eq, xress_nil, xress_tmp, resV, ex_some, if_true, if_false, ite_true, ite_false, reduceIte, reduceCtorEq, Nat.reduceEqDiff, Nat.reduceLT, Nat.reduceLeDiff, Int.reduceLT, Int.reduceLE, Nat.zero_add, Nat.reduceAdd, Bool.false_eq_true, decide_eq_true_eq, decide_eq_false_iff_not, true_implies, false_implies, and_true, true_and, hlt, decide_true]
    refine run_dops _ _ _ _ _ rfl ?_
    cases hbit : (x ^^^ y).testBit (7 - k % 8)
    · rw [hbit] at b4
      rw [hbit] at ih'
      simp only [ofArgs, run_seq, run_block, run_ops, run_skip, run_exit, run_ret, thenQ_normal, thenQ_exit, thenQ_ret, blockQ_normal, blockQ_exit, blockQ_ret, retQ_ret, retQ_normal, ops_nil, ops_none, got_some, ops_wT, ops_wTn, ops_wF, ops_wFn, ops_wU, dops_wT, dops_wTn, dops_wF, dops_wFn, dops_wU, run_condT, run_condF, alt2_int, altB_bool, altI_int, altBB_bool, v_min, v_max, v_not, v_neg, optEv_none, optEv_some, isSome'_none, isSome'_some, pExt0, pExt1, pExt2, Bool.false_and, Bool.true_and, Bool.not_true, Bool.not_false, cond_true, cond_false, dops_nil, dops_none, xval_call, v_mov, v_bin, v_len, v_ext, v_idxA, v_ld, v_st, v_app, v_appN, v_cvs, v_bs1, pBs1, v_slc, v_conv, v_fld, v_fldA, v_new, v_box, v_mks, v_copy, v_isnil, v_nilck, v_pick, ev, evs_nil, evs_cons, fr_get_cons, fr_put_nil, fr_put_cons, fr_put_some, fr_put_none, fr_keep_nil, fr_keep_cons, fr_has_nil, fr_has_cons, Option.bind_some, Option.map_some, xbin, ibin, xresult_eq, xress_nil, xress_tmp, resV, ex_some, if_true, if_false, ite_true, ite_false, reduceIte, reduceCtorEq, Nat.reduceEqDiff, Nat.reduceLT, Nat.reduceLeDiff, Int.reduceLT, Int.reduceLE, Nat.zero_add, Nat.reduceAdd, Bool.false_eq_true, decide_eq_true_eq, decide_eq_false_iff_not, true_implies, false_implies, and_true, true_and, q8, t1, t2, t3, t4, t5, t6, e1, e2, e3, e4, e5, b1, b2, b3, b4]
      exact ih'
    · rw [hbit] at b4
      rw [hbit] at ih'
      simp only [if_true] at ih'
      by_cases hf : f < 0
      · simp only [ofArgs, run_seq, run_block, run_ops, run_skip, run_exit, run_ret, thenQ_normal, thenQ_exit, thenQ_ret, blockQ_normal, blockQ_exit, blockQ_ret, retQ_ret, retQ_normal, ops_nil, ops_none, got_some, ops_wT, ops_wTn, ops_wF, ops_wFn, ops_wU, dops_wT, dops_wTn, dops_wF, dops_wFn, dops_wU, run_condT, run_condF, alt2_int, altB_bool, altI_int, altBB_bool, v_min, v_max, v_not, v_neg, optEv_none, optEv_some, isSome'_none, isSome'_some, pExt0, pExt1, pExt2, Bool.false_and, Bool.true_and, Bool.not_true, Bool.not_false, cond_true, cond_false, dops_nil, dops_none, xval_call, v_mov, v_bin, v_len, v_ext, v_idxA, v_ld, v_st, v_app, v_appN, v_cvs, v_bs1, pBs1, v_slc, v_conv, v_fld, v_fldA, v_new, v_box, v_mks, v_copy, v_isnil, v_nilck, v_pick, ev, evs_nil, evs_cons, fr_get_cons, fr_put_nil, fr_put_cons, fr_put_some, fr_put_none, fr_keep_nil, fr_keep_cons, fr_has_nil, fr_has_cons, Option.bind_some, Option.map_some, xbin, ibin, xresult_eq, xress_nil, xress_tmp, resV, ex_some, if_true, if_false, ite_true, ite_false, reduceIte, reduceCtorEq, Nat.reduceEqDiff, Nat.reduceLT, Nat.reduceLeDiff, Int.reduceLT, Int.reduceLE, Nat.zero_add, Nat.reduceAdd, Bool.false_eq_true, decide_eq_true_eq, decide_eq_false_iff_not, true_implies, false_implies, and_true, true_and, q8, t1, t2, t3, t4, t5, t6, e1, e2, e3, e4, e5, b1, b2, b3, b4, hf, decide_true]
        rw [if_pos hf] at ih'
        simpa [hi] using ih'
      · simp only [ofArgs, run_seq, run_block, run_ops, run_skip, run_exit, run_ret, thenQ_normal, thenQ_exit, thenQ_ret, blockQ_normal, blockQ_exit, blockQ_ret, retQ_ret, retQ_normal, ops_nil, ops_none, got_some, ops_wT, ops_wTn, ops_wF, ops_wFn, ops_wU, dops_wT, dops_wTn, dops_wF, dops_wFn, dops_wU, run_condT, run_condF, alt2_int, altB_bool, altI_int, altBB_bool, v_min, v_max, v_not, v_neg, optEv_none, optEv_some, isSome'_none, isSome'_some, pExt0, pExt1, pExt2, Bool.false_and, Bool.true_and, Bool.not_true, Bool.not_false, cond_true, cond_false, dops_nil, dops_none, xval_call, v_mov, v_bin, v_len, v_ext, v_idxA, v_ld, v_st, v_app, v_appN, v_cvs, v_bs1, pBs1, v_slc, v_conv, v_fld, v_fldA, v_new, v_box, v_mks, v_copy, v_isnil, v_nilck, v_pick, ev, evs_nil, evs_cons, fr_get_cons, fr_put_nil, fr_put_cons, fr_put_some, fr_put_none, fr_keep_nil, fr_keep_cons, fr_has_nil, fr_has_cons, Option.bind_some, Option.map_some, xbin, ibin, xresult_eq, xress_nil, xress_tmp, resV, ex_some, if_true, if_false, ite_true, ite_false, reduceIte, reduceCtorEq, Nat.reduceEqDiff, Nat.reduceLT, Nat.reduceLeDiff, Int.reduceLT, Int.reduceLE, Nat.zero_add, Nat.reduceAdd, Bool.false_eq_true, decide_eq_true_eq, decide_eq_false_iff_not, true_implies, false_implies, and_true, true_and, q8, t1, t2, t3, t4, t5, t6, e1, e2, e3, e4, e5, b1, b2, b3, b4, hf, decide_false]
        rw [if_neg hf] at ih'
        simpa [hi] using ih'

theorem burst_xc (va vb : Value) (a b : List Int) (H : AH) (ha : Byts H va a) (hb : Byts H vb b) (a8 : B8 a) (b8 : B8 b) (hl : a.length = b.length) (hl2 : a.length ≤ 1000000) :
    xc Try.prog tab 26 [va, vb] H = some (.int .i64 (bv (fun i => bitAt a i ^^ bitAt b i) (8 * a.length)), H) := by
  refine got_xc (got_call (res := [.tmp 4]) rfl ?_)
  have e1 := byts_len' ha
  have e2 := byts_len' hb
  have c1 : ((a.length : Int) != (b.length : Int)) = false := by simp [hl]
  have w1 := wrI (8 * (a.length : Int)) (by omega) (by omega)
  have hr := bf_range (fun i => bitAt a i ^^ bitAt b i) (8 * a.length)
  simp only [ofArgs, run_seq, run_block, run_ops, run_skip, run_exit, run_ret, thenQ_normal, thenQ_exit, thenQ_ret, blockQ_normal, blockQ_exit, blockQ_ret, retQ_ret, retQ_normal, ops_nil, ops_none, got_some, ops_wT, ops_wTn, ops_wF, ops_wFn, ops_wU, dops_wT, dops_wTn, dops_wF, dops_wFn, dops_wU, run_condT, run_condF, alt2_int, altB_bool, altI_int, altBB_bool, v_min, v_max, v_not, v_neg, optEv_none, optEv_some, isSome'_none, isSome'_some, pExt0, pExt1, pExt2, Bool.false_and, Bool.true_and, Bool.not_true, Bool.not_false, cond_true, cond_false, dops_nil, dops_none, xval_call, v_mov, v_bin, v_len, v_ext, v_idxA, v_ld, v_st, v_app, v_appN, v_cvs, v_bs1, pBs1, v_slc, v_conv, v_fld, v_fldA, v_new, v_box, v_mks, v_copy, v_isnil, v_nilck, v_pick, ev, evs_nil, evs_cons, fr_get_cons, fr_put_nil, fr_put_cons, fr_put_some, fr_put_none, fr_keep_nil, fr_keep_cons, fr_has_nil, fr_has_cons, Option.bind_some, Option.map_some, xbin, ibin, xresult_eq, xress_nil, xress_tmp, resV, ex_some, if_true, if_false, ite_true, ite_false, reduceIte, reduceCtorEq, Nat.reduceEqDiff, Nat.reduceLT, Nat.reduceLeDiff, Int.reduceLT, Int.reduceLE, Nat.zero_add, Nat.reduceAdd, Bool.false_eq_true, decide_eq_true_eq, decide_eq_false_iff_not, true_implies, false_implies, and_true, true_and, e1, e2, c1, w1]
  refine burst_l0 va vb a b H ha hb a8 b8 hl hl2 _ rfl (8 * a.length) 0 0 _ (by omega) rfl ?_
  unfold bv
  generalize bf (fun i => bitAt a i ^^ bitAt b i) (8 * a.length) = fl at hr
  obtain ⟨f, l⟩ := fl
  simp only [] at hr
  by_cases hf : f < 0
  · simp only [ofArgs, run_seq, run_block, run_ops, run_skip, run_exit, run_ret, thenQ_normal, thenQ_exit, thenQ_ret, blockQ_normal, blockQ_exit, blockQ_ret, retQ_ret, retQ_normal, ops_nil, ops_none, got_some, ops_wT, ops_wTn, ops_wF, ops_wFn, ops_wU, dops_wT, dops_wTn, dops_wF, dops_wFn, dops_wU, run_condT, run_condF, alt2_int, altB_bool, altI_int, altBB_bool, v_min, v_max, v_not, v_neg, optEv_none, optEv_some, isSome'_none, isSome'_some, pExt0, pExt1, pExt2, Bool.false_and, Bool.true_and, Bool.not_true, Bool.not_false, cond_true, cond_false, dops_nil, dops_none, xval_call, v_mov, v_bin, v_len, v_ext, v_idxA, v_ld, v_st, v_app, v_appN, v_cvs, v_bs1, pBs1, v_slc, v_conv, v_fld, v_fldA, v_new, v_box, v_mks, v_copy, v_isnil, v_nilck, v_pick, ev, evs_nil, evs_cons, fr_get_cons, fr_put_nil, fr_put_cons, fr_put_some, fr_put_none, fr_keep_nil, fr_keep_cons, fr_has_nil, fr_has_cons, Option.bind_some, Option.map_some, xbin, ibin, xresult_eq, xress_nil, xress_tmp, resV, ex_some, if_true, if_false, ite_true, ite_false, reduceIte, reduceCtorEq, Nat.reduceEqDiff, Nat.reduceLT, Nat.reduceLeDiff, Int.reduceLT, Int.reduceLE, Nat.zero_add, Nat.reduceAdd, Bool.false_eq_true, decide_eq_true_eq, decide_eq_false_iff_not, true_implies, false_implies, and_true, true_and, hf, decide_true]
  · have w2 := wrI (l - f) (by omega) (by omega)
    have w3 := wrI (l - f + 1) (by omega) (by omega)
    simp only [ofArgs, run_seq, run_block, run_ops, run_skip, run_exit, run_ret, thenQ_normal, thenQ_exit, thenQ_ret, blockQ_normal, blockQ_exit, blockQ_ret, retQ_ret, retQ_normal, ops_nil, ops_none, got_some, ops_wT, ops_wTn, ops_wF, ops_wFn, ops_wU, dops_wT, dops_wTn, dops_wF, dops_wFn, dops_wU, run_condT, run_condF, alt2_int, altB_bool, altI_int, altBB_bool, v_min, v_max, v_not, v_neg, optEv_none, optEv_some, isSome'_none, isSome'_some, pExt0, pExt1, pExt2, Bool.false_and, Bool.true_and, Bool.not_true, Bool.not_false, cond_true, cond_false, dops_nil, dops_none, xval_call, v_mov, v_bin, v_len, v_ext, v_idxA, v_ld, v_st, v_app, v_appN, v_cvs, v_bs1, pBs1, v_slc, v_conv, v_fld, v_fldA, v_new, v_box, v_mks, v_copy, v_isnil, v_nilck, v_pick, ev, evs_nil, evs_cons, fr_get_cons, fr_put_nil, fr_put_cons, fr_put_some, fr_put_none, fr_keep_nil, fr_keep_cons, fr_has_nil, fr_has_cons, Option.bind_some, Option.map_some, xbin, ibin, xresult_eq, xress_nil, xress_tmp, resV, ex_some, if_true, if_false, ite_true, ite_false, reduceIte, reduceCtorEq, Nat.reduceEqDiff, Nat.reduceLT, Nat.reduceLeDiff, Int.reduceLT, Int.reduceLE, Nat.zero_add, Nat.reduceAdd, Bool.false_eq_true, decide_eq_true_eq, decide_eq_false_iff_not, true_implies, false_implies, and_true, true_and, hf, decide_false, w2, w3]
end Go.Proofs.Ytkhjmmidaihbhaa.D
