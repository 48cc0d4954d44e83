/- What functions that the law reaches compute, on a heap of the run's own: the conditions stand in each theorem. -/
import Derived.Test.YtkhjmmidaihbhaaImA
set_option linter.unusedSimpArgs false
set_option linter.unusedVariables false
namespace Go.Proofs.Ytkhjmmidaihbhaa.D
open Go Go.Det

theorem OwnS.weaken {n0 n1 : Nat} {F F' : Nat → Prop} {H : AH} {v : Value} {L : List (List Int)} (h : OwnS n1 F H v L) (hn : n0 ≤ n1) (hF : ∀ b, F' b → F b) : OwnS n0 F' H v L := by
  obtain ⟨vs, h1, h2⟩ := h
  exact ⟨vs, Own.le h1 hn, fun i x hi => ⟨(h2 i x hi).1, fun b hb => ⟨((h2 i x hi).2 b hb).1, fun hf => ((h2 i x hi).2 b hb).2 (hF b hf)⟩⟩⟩
theorem OwnS.lt {n0 : Nat} {F : Nat → Prop} {H : AH} {v : Value} {L : List (List Int)} (h : OwnS n0 F H v L) {b : Nat} (hb : inB v b) : n0 ≤ b ∧ b < H.n := by
  obtain ⟨vs, h1, h2⟩ := h
  refine ⟨?_, h1.1.lt hb⟩
  obtain ⟨o, l, c, e⟩ := hb
  exact (h1.2 b o l c e).1

/-! ### image.place, image.Get -/
theorem place_ok (T S t s : Int) (v : Value) (H : AH) (L : List (List Int)) (Q : Value → AH → Prop) (hs : Secs H v L) (hl : ∀ l ∈ L, l.length = 128) (hT : 1 ≤ T) (hT2 : T ≤ 20) (hS : 1 ≤ S) (hS2 : S ≤ 12) (hLL : (L.length : Int) = T * S)
    (h0 : 0 ≤ t) (h1 : t < T) (h2 : 0 ≤ s) (h3 : s < S) (hq : ∀ H', HExt H H' → Q (.tuple [.int .i64 (t * S + s), .int .i64 0].toArray) H') : Got (xc Try.prog tab 64 [.agg #[.int .i64 T, .int .i64 S, v], .int .i64 t, .int .i64 s] H) Q := by
  refine got_call (res := [.tmp 6, .tmp 7]) rfl ?_
  have ev3 : vcells (.agg #[.int .i64 T, .int .i64 S, v]) = [.int .i64 T, .int .i64 S, v] := rfl
  have hg : (H.push ⟨[.int .i64 T, .int .i64 S, v], 1, false, false⟩).get H.n = some ⟨[.int .i64 T, .int .i64 S, v], 1, false, false⟩ := by rw [AH.get_push, if_pos rfl]
  have hx := hext_push H ⟨[.int .i64 T, .int .i64 S, v], 1, false, false⟩
  have e3 := ld3 hg
  simp only [ofArgs, run_seq, run_block, run_ops, run_skip, run_exit, run_ret, thenQ_normal, thenQ_exit, thenQ_ret, blockQ_normal, blockQ_exit, blockQ_ret, retQ_ret, retQ_normal, ops_nil, ops_none, got_some, ops_wT, ops_wTn, ops_wF, ops_wFn, ops_wU, dops_wT, dops_wTn, dops_wF, dops_wFn, dops_wU, run_condT, run_condF, alt2_int, altB_bool, altI_int, altBB_bool, v_min, v_max, v_not, v_neg, optEv_none, optEv_some, isSome'_none, isSome'_some, pExt0, pExt1, pExt2, Bool.false_and, Bool.true_and, Bool.not_true, Bool.not_false, cond_true, cond_false, dops_nil, dops_none, xval_call, v_mov, v_bin, v_len, v_ext, v_idxA, v_ld, v_st, v_app, v_appN, v_cvs, v_bs1, pBs1, v_slc, v_conv, v_fld, v_fldA, v_new, v_box, v_mks, v_copy, v_isnil, v_nilck, v_pick, ev, evs_nil, evs_cons, fr_get_cons, fr_put_nil, fr_put_cons, fr_put_some, fr_put_none, fr_keep_nil, fr_keep_cons, fr_has_nil, fr_has_cons, Option.bind_some, Option.map_some, xbin, ibin, xresult_eq, xress_nil, xress_tmp, resV, ex_some, if_true, if_false, ite_true, ite_false, reduceIte, reduceCtorEq, Nat.reduceEqDiff, Nat.reduceLT, Nat.reduceLeDiff, Int.reduceLT, Int.reduceLE, Nat.zero_add, Nat.reduceAdd, Bool.false_eq_true, decide_eq_true_eq, decide_eq_false_iff_not, true_implies, false_implies, and_true, true_and, ev3, e3]
  refine imcheck_ok T S v _ L _ (hs.ext hx) hl hT hT2 hS hS2 hLL ?_
  intro H1 x1
  have hg1 : H1.get H.n = some ⟨[.int .i64 T, .int .i64 S, v], 1, false, false⟩ := by rw [x1.2 _ (by simp)]; exact hg
  have e0 := ld3_0 hg1
  have e1 := ld3_1 hg1
  have c1 : ¬ t < 0 := by omega
  have c2 : ¬ t ≥ T := by omega
  have c3 : ¬ s < 0 := by omega
  have c4 : ¬ s ≥ S := by omega
  have hb1 : t * S ≤ 20 * S := Int.mul_le_mul_of_nonneg_right (by omega) (by omega)
  have hb2 : 0 * S ≤ t * S := Int.mul_le_mul_of_nonneg_right h0 (by omega)
  have w1 := wrI (t * S) (by omega) (by omega)
  have w2 := wrI (t * S + s) (by omega) (by omega)
  simp only [ofArgs, run_seq, run_block, run_ops, run_skip, run_exit, run_ret, thenQ_normal, thenQ_exit, thenQ_ret, blockQ_normal, blockQ_exit, blockQ_ret, retQ_ret, retQ_normal, ops_nil, ops_none, got_some, ops_wT, ops_wTn, ops_wF, ops_wFn, ops_wU, dops_wT, dops_wTn, dops_wF, dops_wFn, dops_wU, run_condT, run_condF, alt2_int, altB_bool, altI_int, altBB_bool, v_min, v_max, v_not, v_neg, optEv_none, optEv_some, isSome'_none, isSome'_some, pExt0, pExt1, pExt2, Bool.false_and, Bool.true_and, Bool.not_true, Bool.not_false, cond_true, cond_false, dops_nil, dops_none, xval_call, v_mov, v_bin, v_len, v_ext, v_idxA, v_ld, v_st, v_app, v_appN, v_cvs, v_bs1, pBs1, v_slc, v_conv, v_fld, v_fldA, v_new, v_box, v_mks, v_copy, v_isnil, v_nilck, v_pick, ev, evs_nil, evs_cons, fr_get_cons, fr_put_nil, fr_put_cons, fr_put_some, fr_put_none, fr_keep_nil, fr_keep_cons, fr_has_nil, fr_has_cons, Option.bind_some, Option.map_some, xbin, ibin, xresult_eq, xress_nil, xress_tmp, resV, ex_some, if_true, if_false, ite_true, ite_false, reduceIte, reduceCtorEq, Nat.reduceEqDiff, Nat.reduceLT, Nat.reduceLeDiff, Int.reduceLT, Int.reduceLE, Nat.zero_add, Nat.reduceAdd, Bool.false_eq_true, decide_eq_true_eq, decide_eq_false_iff_not, true_implies, false_implies, and_true, true_and, pFldA_ptr, e0, e1, c1, c2, c3, c4, w1, w2, decide_false, bne_self_eq_false]
  exact hq _ (hx.trans x1)

theorem get_ok (T S t s : Int) (k : Nat) (v : Value) (H : AH) (L : List (List Int)) (Q : Value → AH → Prop) (hs : Secs H v L) (hl : ∀ l ∈ L, l.length = 128) (hT : 1 ≤ T) (hT2 : T ≤ 20) (hS : 1 ≤ S) (hS2 : S ≤ 12) (hLL : (L.length : Int) = T * S)
    (h0 : 0 ≤ t) (h1 : t < T) (h2 : 0 ≤ s) (h3 : s < S) (hk : t * S + s = (k : Int)) (hkl : k < L.length) (hq : ∀ x H', OwnB H.n H' x (L[k]'hkl) → HExt H H' → Q (.tuple [x, .int .i64 0].toArray) H') :
    Got (xc Try.prog tab 30 [.agg #[.int .i64 T, .int .i64 S, v], .int .i64 t, .int .i64 s] H) Q := by
  refine got_call (res := [.tmp 6, .tmp 7]) rfl ?_
  have ev3 : vcells (.agg #[.int .i64 T, .int .i64 S, v]) = [.int .i64 T, .int .i64 S, v] := rfl
  have hg : (H.push ⟨[.int .i64 T, .int .i64 S, v], 1, false, false⟩).get H.n = some ⟨[.int .i64 T, .int .i64 S, v], 1, false, false⟩ := by rw [AH.get_push, if_pos rfl]
  have hx := hext_push H ⟨[.int .i64 T, .int .i64 S, v], 1, false, false⟩
  have e3 := ld3 hg
  simp only [ofArgs, run_seq, run_block, run_ops, run_skip, run_exit, run_ret, thenQ_normal, thenQ_exit, thenQ_ret, blockQ_normal, blockQ_exit, blockQ_ret, retQ_ret, retQ_normal, ops_nil, ops_none, got_some, ops_wT, ops_wTn, ops_wF, ops_wFn, ops_wU, dops_wT, dops_wTn, dops_wF, dops_wFn, dops_wU, run_condT, run_condF, alt2_int, altB_bool, altI_int, altBB_bool, v_min, v_max, v_not, v_neg, optEv_none, optEv_some, isSome'_none, isSome'_some, pExt0, pExt1, pExt2, Bool.false_and, Bool.true_and, Bool.not_true, Bool.not_false, cond_true, cond_false, dops_nil, dops_none, xval_call, v_mov, v_bin, v_len, v_ext, v_idxA, v_ld, v_st, v_app, v_appN, v_cvs, v_bs1, pBs1, v_slc, v_conv, v_fld, v_fldA, v_new, v_box, v_mks, v_copy, v_isnil, v_nilck, v_pick, ev, evs_nil, evs_cons, fr_get_cons, fr_put_nil, fr_put_cons, fr_put_some, fr_put_none, fr_keep_nil, fr_keep_cons, fr_has_nil, fr_has_cons, Option.bind_some, Option.map_some, xbin, ibin, xresult_eq, xress_nil, xress_tmp, resV, ex_some, if_true, if_false, ite_true, ite_false, reduceIte, reduceCtorEq, Nat.reduceEqDiff, Nat.reduceLT, Nat.reduceLeDiff, Int.reduceLT, Int.reduceLE, Nat.zero_add, Nat.reduceAdd, Bool.false_eq_true, decide_eq_true_eq, decide_eq_false_iff_not, true_implies, false_implies, and_true, true_and, ev3, e3]
  refine place_ok T S t s v _ L _ (hs.ext hx) hl hT hT2 hS hS2 hLL h0 h1 h2 h3 ?_
  intro H1 x1
  have hg1 : H1.get H.n = some ⟨[.int .i64 T, .int .i64 S, v], 1, false, false⟩ := by rw [x1.2 _ (by simp)]; exact hg
  have e2 := ld3_2 hg1
  have hs1 := (hs.ext hx).ext x1
  obtain ⟨x, p1, p2, p3⟩ := hs1.at _ k hk hkl
  have h128 := hl _ (List.getElem_mem hkl)
  have hnn : ∃ B o l c, x = .slice (some ⟨B, o, none⟩) l c := by
    obtain ⟨B, o, c, blk, e, _⟩ := Sl.live p3 (by omega)
    exact ⟨B, o, _, c, e⟩
  simp only [ofArgs, run_seq, run_block, run_ops, run_skip, run_exit, run_ret, thenQ_normal, thenQ_exit, thenQ_ret, blockQ_normal, blockQ_exit, blockQ_ret, retQ_ret, retQ_normal, ops_nil, ops_none, got_some, ops_wT, ops_wTn, ops_wF, ops_wFn, ops_wU, dops_wT, dops_wTn, dops_wF, dops_wFn, dops_wU, run_condT, run_condF, alt2_int, altB_bool, altI_int, altBB_bool, v_min, v_max, v_not, v_neg, optEv_none, optEv_some, isSome'_none, isSome'_some, pExt0, pExt1, pExt2, Bool.false_and, Bool.true_and, Bool.not_true, Bool.not_false, cond_true, cond_false, dops_nil, dops_none, xval_call, v_mov, v_bin, v_len, v_ext, v_idxA, v_ld, v_st, v_app, v_appN, v_cvs, v_bs1, pBs1, v_slc, v_conv, v_fld, v_fldA, v_new, v_box, v_mks, v_copy, v_isnil, v_nilck, v_pick, ev, evs_nil, evs_cons, fr_get_cons, fr_put_nil, fr_put_cons, fr_put_some, fr_put_none, fr_keep_nil, fr_keep_cons, fr_has_nil, fr_has_cons, Option.bind_some, Option.map_some, xbin, ibin, xresult_eq, xress_nil, xress_tmp, resV, ex_some, if_true, if_false, ite_true, ite_false, reduceIte, reduceCtorEq, Nat.reduceEqDiff, Nat.reduceLT, Nat.reduceLeDiff, Int.reduceLT, Int.reduceLE, Nat.zero_add, Nat.reduceAdd, Bool.false_eq_true, decide_eq_true_eq, decide_eq_false_iff_not, true_implies, false_implies, and_true, true_and, pFldA_ptr, e2, p1, p2, bne_self_eq_false]
  refine clone_ok _ (by omega) x H1 _ p3 hnn ?_
  intro y H2 o2 x2
  exact hq y H2 (Own.le o2 (by have := x1.1; simp at this; omega)) ((hx.trans x1).trans x2)

/-! ### image.Copy -/
theorem cloneS_ok (L : List (List Int)) (hL : L.length ≤ 1000) (hL0 : 0 < L.length) (s : Value) (H : AH) (Q : Value → AH → Prop) (n0 : Nat) (hn : n0 ≤ H.n) (F : Nat → Prop) (hF : ∀ b, F b → b < n0) (vs : List Value) (h1 : Sl H 1 s L.length vs) (h2 : ∀ (i : Nat) (x : Value), vs[i]? = some x → (∃ l, L[i]? = some l ∧ Byts H x l) ∧ ∀ b, inB x b → ¬ F b)
    (hq : ∀ v H', OwnS n0 F H' v L → HExt H H' → Q v H') : Got (xc Try.prog tab 83 [s] H) Q := by
  refine got_call (res := [.tmp 2]) rfl ?_
  obtain ⟨B, o, c, blk, rfl, _⟩ := h1.live hL0
  have e1 : xisnil (.slice none 0 0) (.slice (some ⟨B, o, none⟩) L.length c) = some false := rfl
  simp only [ofArgs, run_seq, run_block, run_ops, run_skip, run_exit, run_ret, thenQ_normal, thenQ_exit, thenQ_ret, blockQ_normal, blockQ_exit, blockQ_ret, retQ_ret, retQ_normal, ops_nil, ops_none, got_some, ops_wT, ops_wTn, ops_wF, ops_wFn, ops_wU, dops_wT, dops_wTn, dops_wF, dops_wFn, dops_wU, run_condT, run_condF, alt2_int, altB_bool, altI_int, altBB_bool, v_min, v_max, v_not, v_neg, optEv_none, optEv_some, isSome'_none, isSome'_some, pExt0, pExt1, pExt2, Bool.false_and, Bool.true_and, Bool.not_true, Bool.not_false, cond_true, cond_false, dops_nil, dops_none, xval_call, v_mov, v_bin, v_len, v_ext, v_idxA, v_ld, v_st, v_app, v_appN, v_cvs, v_bs1, pBs1, v_slc, v_conv, v_fld, v_fldA, v_new, v_box, v_mks, v_copy, v_isnil, v_nilck, v_pick, ev, evs_nil, evs_cons, fr_get_cons, fr_put_nil, fr_put_cons, fr_put_some, fr_put_none, fr_keep_nil, fr_keep_cons, fr_has_nil, fr_has_cons, Option.bind_some, Option.map_some, xbin, ibin, xresult_eq, xress_nil, xress_tmp, resV, ex_some, if_true, if_false, ite_true, ite_false, reduceIte, reduceCtorEq, Nat.reduceEqDiff, Nat.reduceLT, Nat.reduceLeDiff, Int.reduceLT, Int.reduceLE, Nat.zero_add, Nat.reduceAdd, Bool.false_eq_true, decide_eq_true_eq, decide_eq_false_iff_not, true_implies, false_implies, and_true, true_and, e1, v_bs0]
  have hone : vs.all one = true := by
    rw [List.all_eq_true]
    intro x hx
    obtain ⟨i, hi⟩ := List.getElem?_of_mem hx
    obtain ⟨⟨l, _, h4⟩, _⟩ := h2 i x hi
    exact (sl_slice h4).1
  refine xapp_own (own_bs0 H) (by simp) (Sl.ext (hext_push _ _) h1) hone (Nat.le_refl _) (by omega) (by omega) ?_
  intro v H' o' s'
  have hx : HExt H H' := Keep.trans (n0 := H.n) (hext_push H _) (s'.keep (own_bs0 H) (by simp))
  refine hq v H' ⟨vs, by simpa using Own.le o' hn, fun i x hi => ?_⟩ hx
  obtain ⟨⟨l, h3, h4⟩, h5⟩ := h2 i x hi
  refine ⟨⟨l, h3, Sl.ext hx h4⟩, fun b hb => ⟨fun hv => ?_, h5 b hb⟩⟩
  obtain ⟨o2, l2, c2, e⟩ := hv
  have := (o'.2 b o2 l2 c2 e).1
  have := Sl.lt h4 hb
  omega

theorem copy_l0 (n1 : Nat) (F : Nat → Prop) (hF : ∀ b, F b → b < n1) (D E : Nat) (hD : F D) (a c v : Value) (L : List (List Int)) (hl : ∀ l ∈ L, l.length = 128) (hL : L.length ≤ 1000) (r : Nat) : ∀ (k : Nat) (H : AH) (i N : Int) (Q : XExit → Fr → AH → Prop), k + r = L.length → i = (k : Int) → N = (L.length : Int) →
    OwnS n1 F H v L → n1 ≤ H.n → D < H.n → H.get D = some ⟨[a, c, v], 1, false, false⟩ → (∀ H', OwnS n1 F H' v L → H'.get D = some ⟨[a, c, v], 1, false, false⟩ → Keep n1 H H' → Q (.exit 0) [(1, .pointer (some ⟨D, 0, none⟩)), (2, .pointer (some ⟨E, 0, none⟩)), (10, .int .i64 N), (11, .int .i64 N), (12, .bool false)] H') →
    Run Try.prog tab (.loop ximage_Copy_l0) [(1, .pointer (some ⟨D, 0, none⟩)), (2, .pointer (some ⟨E, 0, none⟩)), (10, .int .i64 N), (11, .int .i64 i)] H Q := by
  induction r with
  | zero =>
    intro k H i N Q hk hi hN ho hn hDn hD hq
    rw [run_loop]
    generalize hLL : XCode.loop ximage_Copy_l0 = LL
    obtain rfl : i = N := by omega
    have hf : ¬ i < i := by omega
    simp only [ximage_Copy_l0, ofArgs, run_seq, run_block, run_ops, run_skip, run_exit, run_ret, thenQ_normal, thenQ_exit, thenQ_ret, blockQ_normal, blockQ_exit, blockQ_ret, retQ_ret, retQ_normal, ops_nil, ops_none, got_some, ops_wT, ops_wTn, ops_wF, ops_wFn, ops_wU, dops_wT, dops_wTn, dops_wF, dops_wFn, dops_wU, run_condT, run_condF, alt2_int, altB_bool, altI_int, altBB_bool, v_min, v_max, v_not, v_neg, optEv_none, optEv_some, isSome'_none, isSome'_some, pExt0, pExt1, pExt2, Bool.false_and, Bool.true_and, Bool.not_true, Bool.not_false, cond_true, cond_false, dops_nil, dops_none, xval_call, v_mov, v_bin, v_len, v_ext, v_idxA, v_ld, v_st, v_app, v_appN, v_cvs, v_bs1, pBs1, v_slc, v_conv, v_fld, v_fldA, v_new, v_box, v_mks, v_copy, v_isnil, v_nilck, v_pick, ev, evs_nil, evs_cons, fr_get_cons, fr_put_nil, fr_put_cons, fr_put_some, fr_put_none, fr_keep_nil, fr_keep_cons, fr_has_nil, fr_has_cons, Option.bind_some, Option.map_some, xbin, ibin, xresult_eq, xress_nil, xress_tmp, resV, ex_some, if_true, if_false, ite_true, ite_false, reduceIte, reduceCtorEq, Nat.reduceEqDiff, Nat.reduceLT, Nat.reduceLeDiff, Int.reduceLT, Int.reduceLE, Nat.zero_add, Nat.reduceAdd, Bool.false_eq_true, decide_eq_true_eq, decide_eq_false_iff_not, true_implies, false_implies, and_true, true_and, hf, decide_false]
    exact hq H ho hD (.refl _ _)
  | succ r ih =>
    intro k H i N Q hk hi hN ho hn hDn hDg hq
    have ih' := ih (k + 1)
    rw [run_loop]
    generalize hLL : XCode.loop ximage_Copy_l0 = LL
    rw [hLL] at ih'
    have hlt : i < N := by omega
    have hkl : k < L.length := by omega
    obtain ⟨x, p1, p2, p3⟩ := ho.secs.at i k hi hkl
    have h128 := hl _ (List.getElem_mem hkl)
    have hnn : ∃ B o l c, x = .slice (some ⟨B, o, none⟩) l c := by
      obtain ⟨B, o, c, blk, e, _⟩ := Sl.live p3 (by omega)
      exact ⟨B, o, _, c, e⟩
    have e2 := ld3_2 hDg
    have e4 := wrI (i + 1) (by omega) (by omega)
    simp only [ximage_Copy_l0, ofArgs, run_seq, run_block, run_ops, run_skip, run_exit, run_ret, thenQ_normal, thenQ_exit, thenQ_ret, blockQ_normal, blockQ_exit, blockQ_ret, retQ_ret, retQ_normal, ops_nil, ops_none, got_some, ops_wT, ops_wTn, ops_wF, ops_wFn, ops_wU, dops_wT, dops_wTn, dops_wF, dops_wFn, dops_wU, run_condT, run_condF, alt2_int, altB_bool, altI_int, altBB_bool, v_min, v_max, v_not, v_neg, optEv_none, optEv_some, isSome'_none, isSome'_some, pExt0, pExt1, pExt2, Bool.false_and, Bool.true_and, Bool.not_true, Bool.not_false, cond_true, cond_false, dops_nil, dops_none, xval_call, v_mov, v_bin, v_len, v_ext, v_idxA, v_ld, v_st, v_app, v_appN, v_cvs, v_bs1, pBs1, v_slc, v_conv, v_fld, v_fldA, v_new, v_box, v_mks, v_copy, v_isnil, v_nilck, v_pick, ev, evs_nil, evs_cons, fr_get_cons, fr_put_nil, fr_put_cons, fr_put_some, fr_put_none, fr_keep_nil, fr_keep_cons, fr_has_nil, fr_has_cons, Option.bind_some, Option.map_some, xbin, ibin, xresult_eq, xress_nil, xress_tmp, resV, ex_some, if_true, if_false, ite_true, ite_false, reduceIte, reduceCtorEq, Nat.reduceEqDiff, Nat.reduceLT, Nat.reduceLeDiff, Int.reduceLT, Int.reduceLE, Nat.zero_add, Nat.reduceAdd, Bool.false_eq_true, decide_eq_true_eq, decide_eq_false_iff_not, true_implies, false_implies, and_true, true_and, hlt, decide_true]
    refine run_dopsS _ _ _ _ _ ?_
    simp only [ofArgs, run_seq, run_block, run_ops, run_skip, run_exit, run_ret, thenQ_normal, thenQ_exit, thenQ_ret, blockQ_normal, blockQ_exit, blockQ_ret, retQ_ret, retQ_normal, ops_nil, ops_none, got_some, ops_wT, ops_wTn, ops_wF, ops_wFn, ops_wU, dops_wT, dops_wTn, dops_wF, dops_wFn, dops_wU, run_condT, run_condF, alt2_int, altB_bool, altI_int, altBB_bool, v_min, v_max, v_not, v_neg, optEv_none, optEv_some, isSome'_none, isSome'_some, pExt0, pExt1, pExt2, Bool.false_and, Bool.true_and, Bool.not_true, Bool.not_false, cond_true, cond_false, dops_nil, dops_none, xval_call, v_mov, v_bin, v_len, v_ext, v_idxA, v_ld, v_st, v_app, v_appN, v_cvs, v_bs1, pBs1, v_slc, v_conv, v_fld, v_fldA, v_new, v_box, v_mks, v_copy, v_isnil, v_nilck, v_pick, ev, evs_nil, evs_cons, fr_get_cons, fr_put_nil, fr_put_cons, fr_put_some, fr_put_none, fr_keep_nil, fr_keep_cons, fr_has_nil, fr_has_cons, Option.bind_some, Option.map_some, xbin, ibin, xresult_eq, xress_nil, xress_tmp, resV, ex_some, if_true, if_false, ite_true, ite_false, reduceIte, reduceCtorEq, Nat.reduceEqDiff, Nat.reduceLT, Nat.reduceLeDiff, Int.reduceLT, Int.reduceLE, Nat.zero_add, Nat.reduceAdd, Bool.false_eq_true, decide_eq_true_eq, decide_eq_false_iff_not, true_implies, false_implies, and_true, true_and, dr_nil, dr_cons, hs0, hs1, hs2, hs3, addC_nil, addC_cons, stabAll_nil, stabAll_cons, stab1_nil, stab1_cons, hat_cons, xval_wT, xval_wTn, xval_wF, xval_wFn, veq_int, veq_bool, veq_ptr, veq_sl, pFldA_ptr, e2, p1, p2]
    refine clone_ok _ (by omega) x H _ p3 hnn ?_
    intro y H1 o1 x1
    have ho1 := ho.ext hF x1
    obtain ⟨x', p1', _, _⟩ := ho1.secs.at i k hi hkl
    have hD1 : H1.get D = some ⟨[a, c, v], 1, false, false⟩ := by rw [x1.2 _ hDn]; exact hDg
    have hvq := (ho.secs.sl).2.2
    simp only [ofArgs, run_seq, run_block, run_ops, run_skip, run_exit, run_ret, thenQ_normal, thenQ_exit, thenQ_ret, blockQ_normal, blockQ_exit, blockQ_ret, retQ_ret, retQ_normal, ops_nil, ops_none, got_some, ops_wT, ops_wTn, ops_wF, ops_wFn, ops_wU, dops_wT, dops_wTn, dops_wF, dops_wFn, dops_wU, run_condT, run_condF, alt2_int, altB_bool, altI_int, altBB_bool, v_min, v_max, v_not, v_neg, optEv_none, optEv_some, isSome'_none, isSome'_some, pExt0, pExt1, pExt2, Bool.false_and, Bool.true_and, Bool.not_true, Bool.not_false, cond_true, cond_false, dops_nil, dops_none, xval_call, v_mov, v_bin, v_len, v_ext, v_idxA, v_ld, v_st, v_app, v_appN, v_cvs, v_bs1, pBs1, v_slc, v_conv, v_fld, v_fldA, v_new, v_box, v_mks, v_copy, v_isnil, v_nilck, v_pick, ev, evs_nil, evs_cons, fr_get_cons, fr_put_nil, fr_put_cons, fr_put_some, fr_put_none, fr_keep_nil, fr_keep_cons, fr_has_nil, fr_has_cons, Option.bind_some, Option.map_some, xbin, ibin, xresult_eq, xress_nil, xress_tmp, resV, ex_some, if_true, if_false, ite_true, ite_false, reduceIte, reduceCtorEq, Nat.reduceEqDiff, Nat.reduceLT, Nat.reduceLeDiff, Int.reduceLT, Int.reduceLE, Nat.zero_add, Nat.reduceAdd, Bool.false_eq_true, decide_eq_true_eq, decide_eq_false_iff_not, true_implies, false_implies, and_true, true_and, dr_nil, dr_cons, hs0, hs1, hs2, hs3, addC_nil, addC_cons, stabAll_nil, stabAll_cons, stab1_nil, stab1_cons, hat_cons, xval_wT, xval_wTn, xval_wF, xval_wFn, veq_int, veq_bool, veq_ptr, veq_sl, p1']
    refine stS ho1 o1.1 (fun b hb => ?_) hkl ?_
    · obtain ⟨o2, l2, c2, e⟩ := hb
      have hb2 := (o1.2 b o2 l2 c2 e).1
      exact ⟨fun hv => by have := (ho.lt hv).2; omega, fun hf => by have := hF b hf; omega⟩
    intro H2 o2 st
    have hset : L.set k (L[k]'hkl) = L := List.set_getElem_self hkl
    rw [hset] at o2
    have hDv : ¬ inB v D := fun hv => by have := (ho.lt hv).1; have := hF D hD; omega
    have hD2 : H2.get D = some ⟨[a, c, v], 1, false, false⟩ := by rw [st.get D (by have := x1.1; omega) hDv]; exact hD1
    have e2' := ld3_2 hD1
    have k2 : Keep n1 H H2 := by
      refine Keep.trans (HExt.keep x1 hn) ⟨st.n, fun b hb => st.get b (by have := x1.1; omega) fun hv => ?_⟩
      have := (ho.lt hv).1
      omega
    simp only [ofArgs, run_seq, run_block, run_ops, run_skip, run_exit, run_ret, thenQ_normal, thenQ_exit, thenQ_ret, blockQ_normal, blockQ_exit, blockQ_ret, retQ_ret, retQ_normal, ops_nil, ops_none, got_some, ops_wT, ops_wTn, ops_wF, ops_wFn, ops_wU, dops_wT, dops_wTn, dops_wF, dops_wFn, dops_wU, run_condT, run_condF, alt2_int, altB_bool, altI_int, altBB_bool, v_min, v_max, v_not, v_neg, optEv_none, optEv_some, isSome'_none, isSome'_some, pExt0, pExt1, pExt2, Bool.false_and, Bool.true_and, Bool.not_true, Bool.not_false, cond_true, cond_false, dops_nil, dops_none, xval_call, v_mov, v_bin, v_len, v_ext, v_idxA, v_ld, v_st, v_app, v_appN, v_cvs, v_bs1, pBs1, v_slc, v_conv, v_fld, v_fldA, v_new, v_box, v_mks, v_copy, v_isnil, v_nilck, v_pick, ev, evs_nil, evs_cons, fr_get_cons, fr_put_nil, fr_put_cons, fr_put_some, fr_put_none, fr_keep_nil, fr_keep_cons, fr_has_nil, fr_has_cons, Option.bind_some, Option.map_some, xbin, ibin, xresult_eq, xress_nil, xress_tmp, resV, ex_some, if_true, if_false, ite_true, ite_false, reduceIte, reduceCtorEq, Nat.reduceEqDiff, Nat.reduceLT, Nat.reduceLeDiff, Int.reduceLT, Int.reduceLE, Nat.zero_add, Nat.reduceAdd, Bool.false_eq_true, decide_eq_true_eq, decide_eq_false_iff_not, true_implies, false_implies, and_true, true_and, dr_nil, dr_cons, hs0, hs1, hs2, hs3, addC_nil, addC_cons, stabAll_nil, stabAll_cons, stab1_nil, stab1_cons, hat_cons, xval_wT, xval_wTn, xval_wF, xval_wFn, veq_int, veq_bool, veq_ptr, veq_sl, pFldA_ptr, e2', hvq, e4]
    refine ih' H2 (i + 1) N Q (by omega) (by omega) hN o2 (by have := k2.1; omega) (by have := k2.1; omega) hD2 ?_
    intro H3 o3 hD3 k3
    exact hq H3 o3 hD3 (k2.trans k3)

theorem copy_ok (T S : Int) (v : Value) (H0 H : AH) (L : List (List Int)) (Q : Value → AH → Prop) (hs : Secs H0 v L) (hx0 : HExt H0 H) (hl : ∀ l ∈ L, l.length = 128) (hL : L.length ≤ 1000) (hL0 : 0 < L.length)
    (hq : ∀ v' H', OwnS H.n (fun b => H0.n ≤ b ∧ b < H.n) H' v' L → HExt H H' → Q (.agg #[.int .i64 T, .int .i64 S, v']) H') : Got (xc Try.prog tab 65 [.agg #[.int .i64 T, .int .i64 S, v]] H) Q := by
  refine got_call (res := [.cell 2 (some 3)]) rfl ?_
  have ev3 : vcells (.agg #[.int .i64 T, .int .i64 S, v]) = [.int .i64 T, .int .i64 S, v] := rfl
  have hx : HExt H ((H.push ⟨[.int .i64 T, .int .i64 S, v], 1, false, false⟩).push ⟨[.int .i64 0, .int .i64 0, .slice none 0 0], 1, false, false⟩) := (hext_push H _).trans (hext_push _ _)
  have g1 : ((H.push ⟨[.int .i64 T, .int .i64 S, v], 1, false, false⟩).push ⟨[.int .i64 0, .int .i64 0, .slice none 0 0], 1, false, false⟩).get H.n = some ⟨[.int .i64 T, .int .i64 S, v], 1, false, false⟩ := by
    rw [AH.get_push, if_neg (by simp), AH.get_push, if_pos rfl]
  have g2 : ((H.push ⟨[.int .i64 T, .int .i64 S, v], 1, false, false⟩).push ⟨[.int .i64 0, .int .i64 0, .slice none 0 0], 1, false, false⟩).get (H.n + 1) = some ⟨[.int .i64 0, .int .i64 0, .slice none 0 0], 1, false, false⟩ := by
    rw [AH.get_push, if_pos (by simp)]
  have e2 := ld3_2 g1
  simp only [ofArgs, run_seq, run_block, run_ops, run_skip, run_exit, run_ret, thenQ_normal, thenQ_exit, thenQ_ret, blockQ_normal, blockQ_exit, blockQ_ret, retQ_ret, retQ_normal, ops_nil, ops_none, got_some, ops_wT, ops_wTn, ops_wF, ops_wFn, ops_wU, dops_wT, dops_wTn, dops_wF, dops_wFn, dops_wU, run_condT, run_condF, alt2_int, altB_bool, altI_int, altBB_bool, v_min, v_max, v_not, v_neg, optEv_none, optEv_some, isSome'_none, isSome'_some, pExt0, pExt1, pExt2, Bool.false_and, Bool.true_and, Bool.not_true, Bool.not_false, cond_true, cond_false, dops_nil, dops_none, xval_call, v_mov, v_bin, v_len, v_ext, v_idxA, v_ld, v_st, v_app, v_appN, v_cvs, v_bs1, pBs1, v_slc, v_conv, v_fld, v_fldA, v_new, v_box, v_mks, v_copy, v_isnil, v_nilck, v_pick, ev, evs_nil, evs_cons, fr_get_cons, fr_put_nil, fr_put_cons, fr_put_some, fr_put_none, fr_keep_nil, fr_keep_cons, fr_has_nil, fr_has_cons, Option.bind_some, Option.map_some, xbin, ibin, xresult_eq, xress_nil, xress_tmp, resV, ex_some, if_true, if_false, ite_true, ite_false, reduceIte, reduceCtorEq, Nat.reduceEqDiff, Nat.reduceLT, Nat.reduceLeDiff, Int.reduceLT, Int.reduceLE, Nat.zero_add, Nat.reduceAdd, Bool.false_eq_true, decide_eq_true_eq, decide_eq_false_iff_not, true_implies, false_implies, and_true, true_and, ev3, pFldA_ptr, e2, AH.push_n]
  generalize hH1 : ((H.push ⟨[.int .i64 T, .int .i64 S, v], 1, false, false⟩).push ⟨[.int .i64 0, .int .i64 0, .slice none 0 0], 1, false, false⟩) = H1 at hx g1 g2 e2
  have hn1 : H1.n = H.n + 2 := by rw [← hH1]; simp
  obtain ⟨vs, s1, s2⟩ := hs.ext (hx0.trans hx)
  obtain ⟨vs0, s10, s20⟩ := hs
  have hF : ∀ b, (H0.n ≤ b ∧ b < H.n + 2) → b < H.n + 2 := by intro b hb; omega
  have h0n := hx0.1
  have hss : Sl H1 1 v L.length vs0 := Sl.ext (hx0.trans hx) s10
  refine cloneS_ok L hL hL0 v H1 _ (H.n + 2) (by omega) (fun b => H0.n ≤ b ∧ b < H.n + 2) hF vs0 hss ?_ ?_
  · intro i x hi
    obtain ⟨l, q1, q2⟩ := s20 i x hi
    refine ⟨⟨l, q1, Sl.ext (hx0.trans hx) q2⟩, fun b hb hf => ?_⟩
    have := Sl.lt q2 hb
    have := hx0.1
    omega
  intro v' H2 o2 x2
  have hg2 : H2.get H.n = some ⟨[.int .i64 T, .int .i64 S, v], 1, false, false⟩ := by rw [x2.2 _ (by omega)]; exact g1
  have hg3 : H2.get (H.n + 1) = some ⟨[.int .i64 0, .int .i64 0, .slice none 0 0], 1, false, false⟩ := by rw [x2.2 _ (by omega)]; exact g2
  obtain ⟨q1, q2, _⟩ := o2.secs.sl
  have e3 := st3_2 hg2 q1 q2
  have hg4 : (H2.set H.n ⟨[.int .i64 T, .int .i64 S, v'], 1, false, false⟩).get H.n = some ⟨[.int .i64 T, .int .i64 S, v'], 1, false, false⟩ := by rw [AH.get_set, if_pos rfl]
  have hg5 : (H2.set H.n ⟨[.int .i64 T, .int .i64 S, v'], 1, false, false⟩).get (H.n + 1) = some ⟨[.int .i64 0, .int .i64 0, .slice none 0 0], 1, false, false⟩ := by rw [AH.get_set, if_neg (by omega)]; exact hg3
  have hn2 := x2.1
  have o3 : OwnS (H.n + 2) (fun b => H0.n ≤ b ∧ b < H.n + 2) (H2.set H.n ⟨[.int .i64 T, .int .i64 S, v'], 1, false, false⟩) v' L := by
    refine o2.mono hF (Nat.le_refl _) fun b hb hf => ?_
    rw [AH.get_set, if_neg (fun e => hf ⟨by omega, by omega⟩)]
  have k3 : Keep H.n H (H2.set H.n ⟨[.int .i64 T, .int .i64 S, v'], 1, false, false⟩) := by
    refine Keep.trans (B := H2) (Keep.trans (n0 := H.n) hx (HExt.keep x2 (by omega))) ⟨Nat.le_refl _, fun b hb => ?_⟩
    rw [AH.get_set, if_neg (by omega)]
  have e4 := ld3_2 hg4
  have e5 := o3.len
  simp only [ofArgs, run_seq, run_block, run_ops, run_skip, run_exit, run_ret, thenQ_normal, thenQ_exit, thenQ_ret, blockQ_normal, blockQ_exit, blockQ_ret, retQ_ret, retQ_normal, ops_nil, ops_none, got_some, ops_wT, ops_wTn, ops_wF, ops_wFn, ops_wU, dops_wT, dops_wTn, dops_wF, dops_wFn, dops_wU, run_condT, run_condF, alt2_int, altB_bool, altI_int, altBB_bool, v_min, v_max, v_not, v_neg, optEv_none, optEv_some, isSome'_none, isSome'_some, pExt0, pExt1, pExt2, Bool.false_and, Bool.true_and, Bool.not_true, Bool.not_false, cond_true, cond_false, dops_nil, dops_none, xval_call, v_mov, v_bin, v_len, v_ext, v_idxA, v_ld, v_st, v_app, v_appN, v_cvs, v_bs1, pBs1, v_slc, v_conv, v_fld, v_fldA, v_new, v_box, v_mks, v_copy, v_isnil, v_nilck, v_pick, ev, evs_nil, evs_cons, fr_get_cons, fr_put_nil, fr_put_cons, fr_put_some, fr_put_none, fr_keep_nil, fr_keep_cons, fr_has_nil, fr_has_cons, Option.bind_some, Option.map_some, xbin, ibin, xresult_eq, xress_nil, xress_tmp, resV, ex_some, if_true, if_false, ite_true, ite_false, reduceIte, reduceCtorEq, Nat.reduceEqDiff, Nat.reduceLT, Nat.reduceLeDiff, Int.reduceLT, Int.reduceLE, Nat.zero_add, Nat.reduceAdd, Bool.false_eq_true, decide_eq_true_eq, decide_eq_false_iff_not, true_implies, false_implies, and_true, true_and, pFldA_ptr, e3, e4, e5]
  refine copy_l0 (H.n + 2) _ hF H.n (H.n + 1) ⟨by omega, by omega⟩ _ _ v' L hl hL L.length 0 _ 0 _ _ (by omega) rfl rfl o3 (by show _ ≤ H2.n; omega) (by show _ < H2.n; omega) hg4 ?_
  intro H4 o4 hg6 k4
  have hg7 : H4.get (H.n + 1) = some ⟨[.int .i64 0, .int .i64 0, .slice none 0 0], 1, false, false⟩ := by rw [k4.2 _ (by omega)]; exact hg5
  have e6 := ld3 hg6
  obtain ⟨q1, q2, _⟩ := o4.secs.sl
  have e7 := st3 (a' := .int .i64 T) (b' := .int .i64 S) (c' := v') hg7 rfl rfl q1
  have hn4 := k4.1
  have hn3 := k3.1
  have hg8 : (H4.set (H.n + 1) ⟨[.int .i64 T, .int .i64 S, v'], 1, false, false⟩).get (H.n + 1) = some ⟨[.int .i64 T, .int .i64 S, v'], 1, false, false⟩ := by rw [AH.get_set, if_pos rfl]
  have hcell : ∀ fr : Fr, fr.get 2 = some (.pointer (some ⟨H.n + 1, 0, none⟩)) → xress fr (H4.set (H.n + 1) ⟨[.int .i64 T, .int .i64 S, v'], 1, false, false⟩) [.cell 2 (some 3)] = some [.agg #[.int .i64 T, .int .i64 S, v']] := by
    intro fr hfr
    rw [xress_cell fr _ 2 _ 0 (some 3) _ (.agg #[.int .i64 T, .int .i64 S, v']) [] hfr hg8 rfl, xress_nil]; rfl
  simp only [ofArgs, run_seq, run_block, run_ops, run_skip, run_exit, run_ret, thenQ_normal, thenQ_exit, thenQ_ret, blockQ_normal, blockQ_exit, blockQ_ret, retQ_ret, retQ_normal, ops_nil, ops_none, got_some, ops_wT, ops_wTn, ops_wF, ops_wFn, ops_wU, dops_wT, dops_wTn, dops_wF, dops_wFn, dops_wU, run_condT, run_condF, alt2_int, altB_bool, altI_int, altBB_bool, v_min, v_max, v_not, v_neg, optEv_none, optEv_some, isSome'_none, isSome'_some, pExt0, pExt1, pExt2, Bool.false_and, Bool.true_and, Bool.not_true, Bool.not_false, cond_true, cond_false, dops_nil, dops_none, xval_call, v_mov, v_bin, v_len, v_ext, v_idxA, v_ld, v_st, v_app, v_appN, v_cvs, v_bs1, pBs1, v_slc, v_conv, v_fld, v_fldA, v_new, v_box, v_mks, v_copy, v_isnil, v_nilck, v_pick, ev, evs_nil, evs_cons, fr_get_cons, fr_put_nil, fr_put_cons, fr_put_some, fr_put_none, fr_keep_nil, fr_keep_cons, fr_has_nil, fr_has_cons, Option.bind_some, Option.map_some, xbin, ibin, xresult_eq, xress_nil, xress_tmp, resV, ex_some, if_true, if_false, ite_true, ite_false, reduceIte, reduceCtorEq, Nat.reduceEqDiff, Nat.reduceLT, Nat.reduceLeDiff, Int.reduceLT, Int.reduceLE, Nat.zero_add, Nat.reduceAdd, Bool.false_eq_true, decide_eq_true_eq, decide_eq_false_iff_not, true_implies, false_implies, and_true, true_and, e6, e7, hcell]
  refine hq v' _ ?_ ?_
  · have o5 : OwnS (H.n + 2) (fun b => H0.n ≤ b ∧ b < H.n + 2) (H4.set (H.n + 1) ⟨[.int .i64 T, .int .i64 S, v'], 1, false, false⟩) v' L := by
      refine o4.mono hF (Nat.le_refl _) fun b hb hf => ?_
      rw [AH.get_set, if_neg (fun e => hf ⟨by omega, by omega⟩)]
    exact o5.weaken (by omega) (fun b hb => ⟨hb.1, by omega⟩)
  · refine Keep.trans (n0 := H.n) k3 (Keep.trans (B := H4) (k4.le (by omega)) ⟨Nat.le_refl _, fun b hb => ?_⟩)
    rw [AH.get_set, if_neg (by omega)]
end Go.Proofs.Ytkhjmmidaihbhaa.D
