/- What functions that the law reaches compute, on a heap of the run's own: the conditions stand in each theorem. -/
import Derived.Test.YtejedmocjdcdgaaCrcA
set_option linter.unusedSimpArgs false
set_option linter.unusedVariables false
namespace Go.Proofs.Ytejedmocjdcdgaa.D
open Go Go.Det

theorem byts_idx {H : AH} {s : Value} {l : List Int} (h : Byts H s l) (i : Int) (k : Nat) (hi : i = (k : Int)) (hk : k < l.length) : pIdx 1 s (.int .i64 i) H = some (ptrAt s k, H) := pIdx_one h .i64 i k hi hk
theorem byts_ld {H : AH} {s : Value} {l : List Int} (h : Byts H s l) (k : Nat) (a : Int) (ha : l[k]? = some a) : pLd none (ptrAt s k) H = some (.int .u8 a, H) := pLd_one h k _ (by simp [ha])
theorem byts_len' {H : AH} {s : Value} {l : List Int} (hs : Byts H s l) : pLen s H = some (.int .i64 (l.length : Int), H) := pLen_ok hs
theorem Byts.app1 {H : AH} {s : Value} {pre rest : List Int} {a : Int} (hs : Byts H s (pre ++ a :: rest)) : Byts H s ((pre ++ [a]) ++ rest) := by
  rw [List.append_assoc]; exact hs

def crcFold (s : Nat) (l : List Int) : Nat := l.foldl (fun s c => nx s c.toNat) s
theorem crcFold_cons (s : Nat) (c : Int) (l : List Int) : crcFold s (c :: l) = crcFold (nx s c.toNat) l := by
  unfold crcFold; rw [List.foldl_cons]
theorem crcFold_lt (l : List Int) (h : B8 l) : ∀ s, s < 65536 → crcFold s l < 65536 := by
  induction l with
  | nil => intro s hs; exact hs
  | cons c l ih =>
    intro s hs
    have hc := h c (by simp)
    have hn := nx_lt s c.toNat (by omega)
    rw [crcFold_cons]
    generalize nx s c.toNat = y at hn
    exact ih (fun b hb => h b (by simp [hb])) y hn

def xorFold (s : Nat) (l : List Int) : Nat := l.foldl (fun s c => s ^^^ c.toNat) s
theorem xorFold_cons (s : Nat) (c : Int) (l : List Int) : xorFold s (c :: l) = xorFold (s ^^^ c.toNat) l := by
  unfold xorFold; rw [List.foldl_cons]
theorem xor_l0 (s : Value) (H : AH) (rest : List Int) : ∀ (pre : List Int) (x : Nat) (i N : Int) (Q : XExit → Fr → AH → Prop), Byts H s (pre ++ rest) → B8 rest → x < 256 → pre.length + rest.length ≤ 100000000 → i = (pre.length : Int) → N = ((pre ++ rest).length : Int) →
    Q (.exit 0) [(3, .int .i64 (xorFold x rest : Nat)), (6, s), (7, .int .i64 N), (8, .int .i64 N), (9, .bool false)] H → Run Try.prog tab (.loop xcrc_Xor_l0) [(3, .int .i64 (x : Nat)), (6, s), (7, .int .i64 N), (8, .int .i64 i)] H Q := by
  induction rest with
  | nil =>
    intro pre x i N Q hs hb hx hl hi hN hq
    rw [run_loop]
    generalize hL : XCode.loop xcrc_Xor_l0 = L
    have hiN : i = N := by simp at hN; omega
    subst hiN
    have hf : ¬ i < i := by omega
    simp only [xcrc_Xor_l0, ofArgs, run_seq, run_block, run_ops, run_skip, run_exit, run_ret, thenQ_normal, thenQ_exit, thenQ_ret, blockQ_normal, blockQ_exit, blockQ_ret, retQ_ret, retQ_normal, ops_nil, ops_none, got_some, ops_wT, ops_wTn, ops_wF, ops_wFn, ops_wU, dops_wT, dops_wTn, dops_wF, dops_wFn, dops_wU, run_condT, run_condF, alt2_int, altB_bool, altI_int, altBB_bool, v_min, v_max, v_not, v_neg, optEv_none, optEv_some, isSome'_none, isSome'_some, pExt0, pExt1, pExt2, Bool.false_and, Bool.true_and, Bool.not_true, Bool.not_false, cond_true, cond_false, dops_nil, dops_none, xval_call, v_mov, v_bin, v_len, v_ext, v_idxA, v_ld, v_st, v_app, v_appN, v_cvs, v_bs1, pBs1, v_slc, v_conv, v_fld, v_fldA, v_new, v_box, v_mks, v_copy, v_isnil, v_nilck, v_pick, ev, evs_nil, evs_cons, fr_get_cons, fr_put_nil, fr_put_cons, fr_put_some, fr_put_none, fr_keep_nil, fr_keep_cons, fr_has_nil, fr_has_cons, Option.bind_some, Option.map_some, xbin, ibin, xresult_eq, xress_nil, xress_tmp, resV, ex_some, if_true, if_false, ite_true, ite_false, reduceIte, reduceCtorEq, Nat.reduceEqDiff, Nat.reduceLT, Nat.reduceLeDiff, Int.reduceLT, Int.reduceLE, Nat.zero_add, Nat.reduceAdd, Bool.false_eq_true, decide_eq_true_eq, decide_eq_false_iff_not, true_implies, false_implies, and_true, true_and, hf, decide_false]
    simpa [xorFold] using hq
  | cons a rest ih =>
    intro pre x i N Q hs hb hx hl hi hN hq
    simp only [List.length_cons] at hl
    rw [run_loop]
    generalize hL : XCode.loop xcrc_Xor_l0 = L
    have hlt : i < N := by simp at hN; omega
    have ha := hb a (by simp)
    have e1 := byts_idx hs i pre.length hi (by simp)
    have e2 := byts_ld hs pre.length a (by simp)
    have e4 := wrI (i + 1) (by omega) (by omega)
    have e3 := wrI a (by omega) (by omega)
    have e5 := w_xor (x : Int) a (by omega) (by omega) (by omega) (by omega)
    simp only [xcrc_Xor_l0, ofArgs, run_seq, run_block, run_ops, run_skip, run_exit, run_ret, thenQ_normal, thenQ_exit, thenQ_ret, blockQ_normal, blockQ_exit, blockQ_ret, retQ_ret, retQ_normal, ops_nil, ops_none, got_some, ops_wT, ops_wTn, ops_wF, ops_wFn, ops_wU, dops_wT, dops_wTn, dops_wF, dops_wFn, dops_wU, run_condT, run_condF, alt2_int, altB_bool, altI_int, altBB_bool, v_min, v_max, v_not, v_neg, optEv_none, optEv_some, isSome'_none, isSome'_some, pExt0, pExt1, pExt2, Bool.false_and, Bool.true_and, Bool.not_true, Bool.not_false, cond_true, cond_false, dops_nil, dops_none, xval_call, v_mov, v_bin, v_len, v_ext, v_idxA, v_ld, v_st, v_app, v_appN, v_cvs, v_bs1, pBs1, v_slc, v_conv, v_fld, v_fldA, v_new, v_box, v_mks, v_copy, v_isnil, v_nilck, v_pick, ev, evs_nil, evs_cons, fr_get_cons, fr_put_nil, fr_put_cons, fr_put_some, fr_put_none, fr_keep_nil, fr_keep_cons, fr_has_nil, fr_has_cons, Option.bind_some, Option.map_some, xbin, ibin, xresult_eq, xress_nil, xress_tmp, resV, ex_some, if_true, if_false, ite_true, ite_false, reduceIte, reduceCtorEq, Nat.reduceEqDiff, Nat.reduceLT, Nat.reduceLeDiff, Int.reduceLT, Int.reduceLE, Nat.zero_add, Nat.reduceAdd, Bool.false_eq_true, decide_eq_true_eq, decide_eq_false_iff_not, true_implies, false_implies, and_true, true_and, pConv, hlt, decide_true, e1, e2, e3, e4, e5, Int.toNat_natCast]
    subst hL
    have hn : x ^^^ a.toNat < 256 := Nat.xor_lt_two_pow (n := 8) (by omega) (by omega)
    rw [xorFold_cons] at hq
    generalize x ^^^ a.toNat = y at hn hq
    exact ih (pre ++ [a]) y (i + 1) N Q (Byts.app1 hs) (fun p hp => hb p (by simp [hp])) hn (by simp; omega) (by simp; omega) (by simpa using hN) hq

theorem xor_xc (l : List Int) (s : Value) (H : AH) (hs : Byts H s l) (hb : B8 l) (hl : l.length ≤ 100000000) : xc Try.prog tab 69 [s] H = some (.int .i64 (xorFold 0 l : Nat), H) := by
  refine got_xc (got_call (res := [.tmp 2]) rfl ?_)
  have e4 := byts_len' hs
  simp only [ofArgs, run_seq, run_block, run_ops, run_skip, run_exit, run_ret, thenQ_normal, thenQ_exit, thenQ_ret, blockQ_normal, blockQ_exit, blockQ_ret, retQ_ret, retQ_normal, ops_nil, ops_none, got_some, ops_wT, ops_wTn, ops_wF, ops_wFn, ops_wU, dops_wT, dops_wTn, dops_wF, dops_wFn, dops_wU, run_condT, run_condF, alt2_int, altB_bool, altI_int, altBB_bool, v_min, v_max, v_not, v_neg, optEv_none, optEv_some, isSome'_none, isSome'_some, pExt0, pExt1, pExt2, Bool.false_and, Bool.true_and, Bool.not_true, Bool.not_false, cond_true, cond_false, dops_nil, dops_none, xval_call, v_mov, v_bin, v_len, v_ext, v_idxA, v_ld, v_st, v_app, v_appN, v_cvs, v_bs1, pBs1, v_slc, v_conv, v_fld, v_fldA, v_new, v_box, v_mks, v_copy, v_isnil, v_nilck, v_pick, ev, evs_nil, evs_cons, fr_get_cons, fr_put_nil, fr_put_cons, fr_put_some, fr_put_none, fr_keep_nil, fr_keep_cons, fr_has_nil, fr_has_cons, Option.bind_some, Option.map_some, xbin, ibin, xresult_eq, xress_nil, xress_tmp, resV, ex_some, if_true, if_false, ite_true, ite_false, reduceIte, reduceCtorEq, Nat.reduceEqDiff, Nat.reduceLT, Nat.reduceLeDiff, Int.reduceLT, Int.reduceLE, Nat.zero_add, Nat.reduceAdd, Bool.false_eq_true, decide_eq_true_eq, decide_eq_false_iff_not, true_implies, false_implies, and_true, true_and, e4]
  refine xor_l0 s H l [] 0 _ _ _ hs hb (by omega) (by simpa using hl) (by simp) (by simp) ?_
  simp only [ofArgs, run_seq, run_block, run_ops, run_skip, run_exit, run_ret, thenQ_normal, thenQ_exit, thenQ_ret, blockQ_normal, blockQ_exit, blockQ_ret, retQ_ret, retQ_normal, ops_nil, ops_none, got_some, ops_wT, ops_wTn, ops_wF, ops_wFn, ops_wU, dops_wT, dops_wTn, dops_wF, dops_wFn, dops_wU, run_condT, run_condF, alt2_int, altB_bool, altI_int, altBB_bool, v_min, v_max, v_not, v_neg, optEv_none, optEv_some, isSome'_none, isSome'_some, pExt0, pExt1, pExt2, Bool.false_and, Bool.true_and, Bool.not_true, Bool.not_false, cond_true, cond_false, dops_nil, dops_none, xval_call, v_mov, v_bin, v_len, v_ext, v_idxA, v_ld, v_st, v_app, v_appN, v_cvs, v_bs1, pBs1, v_slc, v_conv, v_fld, v_fldA, v_new, v_box, v_mks, v_copy, v_isnil, v_nilck, v_pick, ev, evs_nil, evs_cons, fr_get_cons, fr_put_nil, fr_put_cons, fr_put_some, fr_put_none, fr_keep_nil, fr_keep_cons, fr_has_nil, fr_has_cons, Option.bind_some, Option.map_some, xbin, ibin, xresult_eq, xress_nil, xress_tmp, resV, ex_some, if_true, if_false, ite_true, ite_false, reduceIte, reduceCtorEq, Nat.reduceEqDiff, Nat.reduceLT, Nat.reduceLeDiff, Int.reduceLT, Int.reduceLE, Nat.zero_add, Nat.reduceAdd, Bool.false_eq_true, decide_eq_true_eq, decide_eq_false_iff_not, true_implies, false_implies, and_true, true_and]

theorem b8_sum (l : List Int) (hb : B8 l) : 0 ≤ l.sum ∧ l.sum ≤ 256 * (l.length : Int) := by
  induction l with
  | nil => simp
  | cons a l ih =>
    have ha := hb a (by simp)
    have := ih (fun b h => hb b (by simp [h]))
    simp only [List.sum_cons, List.length_cons]
    omega

end Go.Proofs.Ytejedmocjdcdgaa.D
