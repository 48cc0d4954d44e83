/- What functions that the law reaches compute, on a heap of the run's own: the conditions stand in each theorem. -/
import Derived.Test.YtkhjmmidaihbhaaWkP
import Derived.Test.YtkhjmmidaihbhaaGcA0
set_option linter.unusedSimpArgs false
set_option linter.unusedVariables false
namespace Go.Proofs.Ytkhjmmidaihbhaa.D
open Go Go.Det

/-! ### structs that are built -/
def pS3 (v : Value) (H : AH) : Option (Value × AH) :=
  match vcells v with
  | [a, b, c] => bif one a && one b && one c then some (.slice (some ⟨H.n, 0, none⟩) 1 1, H.push ⟨[a, b, c], 3, false, false⟩) else none
  | _ => none
theorem v_bs31 {P : Program} {T : XTab} (fr : Fr) (H : AH) (dd : Option Nat) (e : TypeId) (x : Operand) (z0 z1 z2 : Value) : xval P (xc P T) ⟨dd, .bslice e 3 1 [z0, z1, z2] [(0, x)], none⟩ fr H = (ev fr x).bind fun v => pS3 v H := by
  rw [xval_op dd _ fr H rfl, e_bslice]
  rcases hx : ev fr x with _ | v
  · simp [xfill, hx]
  · simp only [List.map_cons, List.map_nil, rep, List.append_nil, Option.bind_some, pS3, xfill, hx]
    rcases vcells v with _ | ⟨a, _ | ⟨b, _ | ⟨d, _ | ⟨d2, r⟩⟩⟩⟩
    · rfl
    · have hb : [a].length.beq 3 = false := by rw [Tr.beq_eq]; simp
      simp only [hb, Bool.false_and, cond_false]
      rfl
    · have hb : [a, b].length.beq 3 = false := by rw [Tr.beq_eq]; simp
      simp only [hb, Bool.false_and, cond_false]
      rfl
    · cases h : one a <;> cases h2 : one b <;> cases h3 : one d <;> simp [h, h2, h3, splice, show Nat.ble 3 3 = true from rfl, show (3 : Nat).beq 3 = true from rfl]
    · have hb : (a :: b :: d :: d2 :: r).length.beq 3 = false := by rw [Tr.beq_eq]; simp
      simp only [hb, Bool.false_and, cond_false]
      rfl
theorem pS3_S3 (s : Spn) (H : AH) : pS3 (S3 s) H = some (.slice (some ⟨H.n, 0, none⟩) 1 1, H.push ⟨[.int .i64 (s.1 : Int), .int .i64 (s.2.1 : Int), .int .i64 (s.2.2 : Int)], 3, false, false⟩) := rfl
def altb3 (a b c : Option Value) (f : Int → Int → Int → Option (Value × AH)) (z : Option (Value × AH)) : Option (Value × AH) :=
  match a, b, c with
  | some (.int .i64 x), some (.int .i64 y), some (.int .i64 w) => f x y w
  | _, _, _ => z
theorem altb3_int (a b c : Int) (f : Int → Int → Int → Option (Value × AH)) (z : Option (Value × AH)) : altb3 (some (.int .i64 a)) (some (.int .i64 b)) (some (.int .i64 c)) f z = f a b c := rfl
theorem v_b3 {P : Program} {T : XTab} {fr : Fr} {H : AH} (dd : Option Nat) (z0 z1 z2 : Value) (x0 x1 x2 : Operand) : xval P (xc P T) ⟨dd, .build [z0, z1, z2] [(0, 1, x0), (1, 1, x1), (2, 1, x2)], none⟩ fr H =
    altb3 (ev fr x0) (ev fr x1) (ev fr x2) (fun a b c => some (.agg #[.int .i64 a, .int .i64 b, .int .i64 c], H)) (xop P fr H (.build [z0, z1, z2] [(0, 1, x0), (1, 1, x1), (2, 1, x2)])) := by
  rw [xval_op dd _ fr H rfl]
  unfold altb3
  split
  · rename_i a b c h0 h1 h2
    rw [e_build]
    simp only [xfill, h0, h1, h2]
    rfl
  · rfl
def pB20 (z1 v : Value) (H : AH) : Option (Value × AH) :=
  match vcells v with
  | [a] => bif one a then some (.agg #[a, z1], H) else none
  | _ => none
theorem v_b20 {P : Program} {T : XTab} (fr : Fr) (H : AH) (dd : Option Nat) (x : Operand) (z0 z1 : Value) : xval P (xc P T) ⟨dd, .build [z0, z1] [(0, 1, x)], none⟩ fr H = (ev fr x).bind fun v => pB20 z1 v H := by
  rw [xval_op dd _ fr H rfl, e_build]
  rcases hx : ev fr x with _ | v
  · simp [xfill, hx]
  · simp only [Option.bind_some, pB20, xfill, hx]
    rcases vcells v with _ | ⟨a, _ | ⟨b, r⟩⟩
    · rfl
    · cases h : one a <;> simp [h, splice, show Nat.ble 1 2 = true from rfl, show (1 : Nat).beq 1 = true from rfl]
    · have hb : (a :: b :: r).length.beq 1 = false := by rw [Tr.beq_eq]; simp
      simp only [hb, Bool.false_and, cond_false]
      rfl
theorem pB20_of (z1 v : Value) (H : AH) (h1 : one v = true) (h2 : vcells v = [v]) : pB20 z1 v H = some (.agg #[v, z1], H) := by unfold pB20; rw [h2]; simp only [h1, cond_true]

/-! ### whether a change is in a weak place -/
theorem index_l0 (sv : Value) (j B : Nat) (rest : List Spn) : ∀ (pre : List Spn) (H : AH) (i N : Int) (Q : XExit → Fr → AH → Prop), Spns H sv (pre ++ rest) → H.get B = some ⟨[.int .i64 (j : Int)], 1, false, false⟩ → B < H.n → pre.length + rest.length ≤ 100 → i = (pre.length : Int) → N = ((pre ++ rest).length : Int) →
    (rest.any (inSp j) = true → ∀ k : Int, 0 ≤ k → ∀ H', HExt H H' → Q .ret [(4, .int .i64 k)] H') →
    (rest.any (inSp j) = false → ∀ H', HExt H H' → Q (.exit 0) [(0, sv), (1, .func (.func 45) #[] #[.pointer (some ⟨B, 0, none⟩)]), (7, .int .i64 N), (8, .int .i64 N), (9, .bool false)] H') →
    Run Try.prog tab (.loop xslices_IndexFunc_Sweak_Span_weak_Span_l0) [(0, sv), (1, .func (.func 45) #[] #[.pointer (some ⟨B, 0, none⟩)]), (7, .int .i64 N), (8, .int .i64 i)] H Q := by
  induction rest with
  | nil =>
    intro pre H i N Q hs hB hBn hl hi hN hq1 hq2
    rw [run_loop]
    generalize hL : XCode.loop xslices_IndexFunc_Sweak_Span_weak_Span_l0 = L
    have hiN : i = N := by simp at hN; omega
    subst hiN
    have hf : ¬ i < i := by omega
    simp only [xslices_IndexFunc_Sweak_Span_weak_Span_l0, ofArgs, run_seq, run_block, run_ops, run_skip, run_exit, run_ret, thenQ_normal, thenQ_exit, thenQ_ret, blockQ_normal, blockQ_exit, blockQ_ret, retQ_ret, retQ_normal, ops_nil, ops_none, got_some, ops_wT, ops_wTn, ops_wF, ops_wFn, ops_wU, dops_wT, dops_wTn, dops_wF, dops_wFn, dops_wU, run_condT, run_condF, alt2_int, altB_bool, altI_int, altBB_bool, v_min, v_max, v_not, v_neg, optEv_none, optEv_some, isSome'_none, isSome'_some, pExt0, pExt1, pExt2, Bool.false_and, Bool.true_and, Bool.not_true, Bool.not_false, cond_true, cond_false, dops_nil, dops_none, xval_call, v_mov, v_bin, v_len, v_ext, v_idxA, v_ld, v_st, v_app, v_appN, v_cvs, v_bs1, pBs1, v_slc, v_conv, v_fld, v_fldA, v_new, v_box, v_mks, v_copy, v_isnil, v_nilck, v_pick, ev, evs_nil, evs_cons, fr_get_cons, fr_put_nil, fr_put_cons, fr_put_some, fr_put_none, fr_keep_nil, fr_keep_cons, fr_has_nil, fr_has_cons, Option.bind_some, Option.map_some, xbin, ibin, xresult_eq, xress_nil, xress_tmp, resV, ex_some, if_true, if_false, ite_true, ite_false, reduceIte, reduceCtorEq, Nat.reduceEqDiff, Nat.reduceLT, Nat.reduceLeDiff, Int.reduceLT, Int.reduceLE, Nat.zero_add, Nat.reduceAdd, Bool.false_eq_true, decide_eq_true_eq, decide_eq_false_iff_not, true_implies, false_implies, and_true, true_and, hf, decide_false]
    exact hq2 rfl H (HExt.refl H)
  | cons s rest ih =>
    intro pre H i N Q hs hB hBn hl hi hN hq1 hq2
    rw [run_loop]
    generalize hL : XCode.loop xslices_IndexFunc_Sweak_Span_weak_Span_l0 = L
    simp only [List.length_cons] at hl
    have hlt : i < N := by simp at hN; omega
    have e1 := spns_idx hs .i64 i hi
    have e2 := spns_ld hs
    have e4 := wrI (i + 1) (by omega) (by omega)
    have ea : (#[] : Array Value).toList ++ [S3 s] ++ (#[.pointer (some ⟨B, 0, none⟩)] : Array Value).toList = [S3 s, .pointer (some ⟨B, 0, none⟩)] := rfl
    simp only [xslices_IndexFunc_Sweak_Span_weak_Span_l0, ofArgs, run_seq, run_block, run_ops, run_skip, run_exit, run_ret, thenQ_normal, thenQ_exit, thenQ_ret, blockQ_normal, blockQ_exit, blockQ_ret, retQ_ret, retQ_normal, ops_nil, ops_none, got_some, ops_wT, ops_wTn, ops_wF, ops_wFn, ops_wU, dops_wT, dops_wTn, dops_wF, dops_wFn, dops_wU, run_condT, run_condF, alt2_int, altB_bool, altI_int, altBB_bool, v_min, v_max, v_not, v_neg, optEv_none, optEv_some, isSome'_none, isSome'_some, pExt0, pExt1, pExt2, Bool.false_and, Bool.true_and, Bool.not_true, Bool.not_false, cond_true, cond_false, dops_nil, dops_none, xval_call, v_mov, v_bin, v_len, v_ext, v_idxA, v_ld, v_st, v_app, v_appN, v_cvs, v_bs1, pBs1, v_slc, v_conv, v_fld, v_fldA, v_new, v_box, v_mks, v_copy, v_isnil, v_nilck, v_pick, ev, evs_nil, evs_cons, fr_get_cons, fr_put_nil, fr_put_cons, fr_put_some, fr_put_none, fr_keep_nil, fr_keep_cons, fr_has_nil, fr_has_cons, Option.bind_some, Option.map_some, xbin, ibin, xresult_eq, xress_nil, xress_tmp, resV, ex_some, if_true, if_false, ite_true, ite_false, reduceIte, reduceCtorEq, Nat.reduceEqDiff, Nat.reduceLT, Nat.reduceLeDiff, Int.reduceLT, Int.reduceLE, Nat.zero_add, Nat.reduceAdd, Bool.false_eq_true, decide_eq_true_eq, decide_eq_false_iff_not, true_implies, false_implies, and_true, true_and, hlt, decide_true, e1, e2, v_callv, pCallV_func, ea]
    refine weak1_ok s j B H _ hB hBn ?_
    intro H' hx
    by_cases c : inSp j s = true
    · rw [c]
      simp only [ofArgs, run_seq, run_block, run_ops, run_skip, run_exit, run_ret, thenQ_normal, thenQ_exit, thenQ_ret, blockQ_normal, blockQ_exit, blockQ_ret, retQ_ret, retQ_normal, ops_nil, ops_none, got_some, ops_wT, ops_wTn, ops_wF, ops_wFn, ops_wU, dops_wT, dops_wTn, dops_wF, dops_wFn, dops_wU, run_condT, run_condF, alt2_int, altB_bool, altI_int, altBB_bool, v_min, v_max, v_not, v_neg, optEv_none, optEv_some, isSome'_none, isSome'_some, pExt0, pExt1, pExt2, Bool.false_and, Bool.true_and, Bool.not_true, Bool.not_false, cond_true, cond_false, dops_nil, dops_none, xval_call, v_mov, v_bin, v_len, v_ext, v_idxA, v_ld, v_st, v_app, v_appN, v_cvs, v_bs1, pBs1, v_slc, v_conv, v_fld, v_fldA, v_new, v_box, v_mks, v_copy, v_isnil, v_nilck, v_pick, ev, evs_nil, evs_cons, fr_get_cons, fr_put_nil, fr_put_cons, fr_put_some, fr_put_none, fr_keep_nil, fr_keep_cons, fr_has_nil, fr_has_cons, Option.bind_some, Option.map_some, xbin, ibin, xresult_eq, xress_nil, xress_tmp, resV, ex_some, if_true, if_false, ite_true, ite_false, reduceIte, reduceCtorEq, Nat.reduceEqDiff, Nat.reduceLT, Nat.reduceLeDiff, Int.reduceLT, Int.reduceLE, Nat.zero_add, Nat.reduceAdd, Bool.false_eq_true, decide_eq_true_eq, decide_eq_false_iff_not, true_implies, false_implies, and_true, true_and]
      exact hq1 (by simp [c]) i (by omega) H' hx
    · have c' : inSp j s = false := by simpa using c
      rw [c']
      simp only [ofArgs, run_seq, run_block, run_ops, run_skip, run_exit, run_ret, thenQ_normal, thenQ_exit, thenQ_ret, blockQ_normal, blockQ_exit, blockQ_ret, retQ_ret, retQ_normal, ops_nil, ops_none, got_some, ops_wT, ops_wTn, ops_wF, ops_wFn, ops_wU, dops_wT, dops_wTn, dops_wF, dops_wFn, dops_wU, run_condT, run_condF, alt2_int, altB_bool, altI_int, altBB_bool, v_min, v_max, v_not, v_neg, optEv_none, optEv_some, isSome'_none, isSome'_some, pExt0, pExt1, pExt2, Bool.false_and, Bool.true_and, Bool.not_true, Bool.not_false, cond_true, cond_false, dops_nil, dops_none, xval_call, v_mov, v_bin, v_len, v_ext, v_idxA, v_ld, v_st, v_app, v_appN, v_cvs, v_bs1, pBs1, v_slc, v_conv, v_fld, v_fldA, v_new, v_box, v_mks, v_copy, v_isnil, v_nilck, v_pick, ev, evs_nil, evs_cons, fr_get_cons, fr_put_nil, fr_put_cons, fr_put_some, fr_put_none, fr_keep_nil, fr_keep_cons, fr_has_nil, fr_has_cons, Option.bind_some, Option.map_some, xbin, ibin, xresult_eq, xress_nil, xress_tmp, resV, ex_some, if_true, if_false, ite_true, ite_false, reduceIte, reduceCtorEq, Nat.reduceEqDiff, Nat.reduceLT, Nat.reduceLeDiff, Int.reduceLT, Int.reduceLE, Nat.zero_add, Nat.reduceAdd, Bool.false_eq_true, decide_eq_true_eq, decide_eq_false_iff_not, true_implies, false_implies, and_true, true_and, e4]
      subst hL
      have hsv : Spns H' sv ((pre ++ [s]) ++ rest) := by rw [← List.append_cons]; exact Sl.ext hx hs
      refine ih (pre ++ [s]) H' (i + 1) N Q hsv ((hx.2 B hBn).trans hB) (by have := hx.1; omega) (by simp; omega) (by simp; omega) (by simpa using hN) ?_ ?_
      · intro h k hk H2 x2; exact hq1 (by simp [h]) k hk H2 (hx.trans x2)
      · intro h H2 x2; exact hq2 (by simp [h, c']) H2 (hx.trans x2)
theorem contains_ok (sv : Value) (j B : Nat) (l : List Spn) (H : AH) (Q : Value → AH → Prop) (hs : Spns H sv l) (hB : H.get B = some ⟨[.int .i64 (j : Int)], 1, false, false⟩) (hBn : B < H.n) (hl : l.length ≤ 100) (hq : ∀ H', HExt H H' → Q (.bool (l.any (inSp j))) H') :
    Got (xc Try.prog tab 44 [sv, .func (.func 45) #[] #[.pointer (some ⟨B, 0, none⟩)]] H) Q := by
  refine got_call (res := [.tmp 4]) rfl ?_
  simp only [ofArgs, run_seq, run_block, run_ops, run_skip, run_exit, run_ret, thenQ_normal, thenQ_exit, thenQ_ret, blockQ_normal, blockQ_exit, blockQ_ret, retQ_ret, retQ_normal, ops_nil, ops_none, got_some, ops_wT, ops_wTn, ops_wF, ops_wFn, ops_wU, dops_wT, dops_wTn, dops_wF, dops_wFn, dops_wU, run_condT, run_condF, alt2_int, altB_bool, altI_int, altBB_bool, v_min, v_max, v_not, v_neg, optEv_none, optEv_some, isSome'_none, isSome'_some, pExt0, pExt1, pExt2, Bool.false_and, Bool.true_and, Bool.not_true, Bool.not_false, cond_true, cond_false, dops_nil, dops_none, xval_call, v_mov, v_bin, v_len, v_ext, v_idxA, v_ld, v_st, v_app, v_appN, v_cvs, v_bs1, pBs1, v_slc, v_conv, v_fld, v_fldA, v_new, v_box, v_mks, v_copy, v_isnil, v_nilck, v_pick, ev, evs_nil, evs_cons, fr_get_cons, fr_put_nil, fr_put_cons, fr_put_some, fr_put_none, fr_keep_nil, fr_keep_cons, fr_has_nil, fr_has_cons, Option.bind_some, Option.map_some, xbin, ibin, xresult_eq, xress_nil, xress_tmp, resV, ex_some, if_true, if_false, ite_true, ite_false, reduceIte, reduceCtorEq, Nat.reduceEqDiff, Nat.reduceLT, Nat.reduceLeDiff, Int.reduceLT, Int.reduceLE, Nat.zero_add, Nat.reduceAdd, Bool.false_eq_true, decide_eq_true_eq, decide_eq_false_iff_not, true_implies, false_implies, and_true, true_and]
  refine got_call (res := [.tmp 4]) rfl ?_
  have e6 := pLen_ok hs
  simp only [ofArgs, run_seq, run_block, run_ops, run_skip, run_exit, run_ret, thenQ_normal, thenQ_exit, thenQ_ret, blockQ_normal, blockQ_exit, blockQ_ret, retQ_ret, retQ_normal, ops_nil, ops_none, got_some, ops_wT, ops_wTn, ops_wF, ops_wFn, ops_wU, dops_wT, dops_wTn, dops_wF, dops_wFn, dops_wU, run_condT, run_condF, alt2_int, altB_bool, altI_int, altBB_bool, v_min, v_max, v_not, v_neg, optEv_none, optEv_some, isSome'_none, isSome'_some, pExt0, pExt1, pExt2, Bool.false_and, Bool.true_and, Bool.not_true, Bool.not_false, cond_true, cond_false, dops_nil, dops_none, xval_call, v_mov, v_bin, v_len, v_ext, v_idxA, v_ld, v_st, v_app, v_appN, v_cvs, v_bs1, pBs1, v_slc, v_conv, v_fld, v_fldA, v_new, v_box, v_mks, v_copy, v_isnil, v_nilck, v_pick, ev, evs_nil, evs_cons, fr_get_cons, fr_put_nil, fr_put_cons, fr_put_some, fr_put_none, fr_keep_nil, fr_keep_cons, fr_has_nil, fr_has_cons, Option.bind_some, Option.map_some, xbin, ibin, xresult_eq, xress_nil, xress_tmp, resV, ex_some, if_true, if_false, ite_true, ite_false, reduceIte, reduceCtorEq, Nat.reduceEqDiff, Nat.reduceLT, Nat.reduceLeDiff, Int.reduceLT, Int.reduceLE, Nat.zero_add, Nat.reduceAdd, Bool.false_eq_true, decide_eq_true_eq, decide_eq_false_iff_not, true_implies, false_implies, and_true, true_and, e6]
  refine index_l0 sv j B l [] H _ _ _ (by simpa using hs) hB hBn (by simp; omega) (by simp) (by simp) ?_ ?_
  · intro h k hk H' hx
    have c : k ≥ 0 := hk
    rw [h] at hq
    simp only [ofArgs, run_seq, run_block, run_ops, run_skip, run_exit, run_ret, thenQ_normal, thenQ_exit, thenQ_ret, blockQ_normal, blockQ_exit, blockQ_ret, retQ_ret, retQ_normal, ops_nil, ops_none, got_some, ops_wT, ops_wTn, ops_wF, ops_wFn, ops_wU, dops_wT, dops_wTn, dops_wF, dops_wFn, dops_wU, run_condT, run_condF, alt2_int, altB_bool, altI_int, altBB_bool, v_min, v_max, v_not, v_neg, optEv_none, optEv_some, isSome'_none, isSome'_some, pExt0, pExt1, pExt2, Bool.false_and, Bool.true_and, Bool.not_true, Bool.not_false, cond_true, cond_false, dops_nil, dops_none, xval_call, v_mov, v_bin, v_len, v_ext, v_idxA, v_ld, v_st, v_app, v_appN, v_cvs, v_bs1, pBs1, v_slc, v_conv, v_fld, v_fldA, v_new, v_box, v_mks, v_copy, v_isnil, v_nilck, v_pick, ev, evs_nil, evs_cons, fr_get_cons, fr_put_nil, fr_put_cons, fr_put_some, fr_put_none, fr_keep_nil, fr_keep_cons, fr_has_nil, fr_has_cons, Option.bind_some, Option.map_some, xbin, ibin, xresult_eq, xress_nil, xress_tmp, resV, ex_some, if_true, if_false, ite_true, ite_false, reduceIte, reduceCtorEq, Nat.reduceEqDiff, Nat.reduceLT, Nat.reduceLeDiff, Int.reduceLT, Int.reduceLE, Nat.zero_add, Nat.reduceAdd, Bool.false_eq_true, decide_eq_true_eq, decide_eq_false_iff_not, true_implies, false_implies, and_true, true_and, c, decide_true]
    exact hq H' hx
  · intro h H' hx
    have c : ¬ (-1 : Int) ≥ 0 := by decide
    rw [h] at hq
    simp only [ofArgs, run_seq, run_block, run_ops, run_skip, run_exit, run_ret, thenQ_normal, thenQ_exit, thenQ_ret, blockQ_normal, blockQ_exit, blockQ_ret, retQ_ret, retQ_normal, ops_nil, ops_none, got_some, ops_wT, ops_wTn, ops_wF, ops_wFn, ops_wU, dops_wT, dops_wTn, dops_wF, dops_wFn, dops_wU, run_condT, run_condF, alt2_int, altB_bool, altI_int, altBB_bool, v_min, v_max, v_not, v_neg, optEv_none, optEv_some, isSome'_none, isSome'_some, pExt0, pExt1, pExt2, Bool.false_and, Bool.true_and, Bool.not_true, Bool.not_false, cond_true, cond_false, dops_nil, dops_none, xval_call, v_mov, v_bin, v_len, v_ext, v_idxA, v_ld, v_st, v_app, v_appN, v_cvs, v_bs1, pBs1, v_slc, v_conv, v_fld, v_fldA, v_new, v_box, v_mks, v_copy, v_isnil, v_nilck, v_pick, ev, evs_nil, evs_cons, fr_get_cons, fr_put_nil, fr_put_cons, fr_put_some, fr_put_none, fr_keep_nil, fr_keep_cons, fr_has_nil, fr_has_cons, Option.bind_some, Option.map_some, xbin, ibin, xresult_eq, xress_nil, xress_tmp, resV, ex_some, if_true, if_false, ite_true, ite_false, reduceIte, reduceCtorEq, Nat.reduceEqDiff, Nat.reduceLT, Nat.reduceLeDiff, Int.reduceLT, Int.reduceLE, Nat.zero_add, Nat.reduceAdd, Bool.false_eq_true, decide_eq_true_eq, decide_eq_false_iff_not, true_implies, false_implies, and_true, true_and, c, decide_false]
    exact hq H' hx
end Go.Proofs.Ytkhjmmidaihbhaa.D
