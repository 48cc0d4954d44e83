/- What functions that the law reaches compute, on a heap of the run's own: the conditions stand in each theorem. -/
import Derived.Test.YtkhjmmidaihbhaaImB
set_option linter.unusedSimpArgs false
set_option linter.unusedVariables false
namespace Go.Proofs.Ytkhjmmidaihbhaa.D
open Go Go.Det

theorem put_ok (T S t s : Int) (k : Nat) (v vb : Value) (H : AH) (L : List (List Int)) (bl : List Int) (Q : Value → AH → Prop) (hs : Secs H v L) (hb : Byts H vb bl) (hbl : bl.length = 128) (hl : ∀ l ∈ L, l.length = 128) (hT : 1 ≤ T) (hT2 : T ≤ 20) (hS : 1 ≤ S) (hS2 : S ≤ 12) (hLL : (L.length : Int) = T * S)
    (h0 : 0 ≤ t) (h1 : t < T) (h2 : 0 ≤ s) (h3 : s < S) (hk : t * S + s = (k : Int)) (hkl : k < L.length) (hL : L.length ≤ 1000) (hq : ∀ v' H', Secs H' v' (L.set k bl) → HExt H H' → Q (.tuple [.agg #[.int .i64 T, .int .i64 S, v'], .int .i64 0].toArray) H') :
    Got (xc Try.prog tab 29 [.agg #[.int .i64 T, .int .i64 S, v], .int .i64 t, .int .i64 s, vb] H) Q := by
  refine got_call (res := [.cell 8 (some 3), .tmp 9]) rfl ?_
  have ev3 : vcells (.agg #[.int .i64 T, .int .i64 S, v]) = [.int .i64 T, .int .i64 S, v] := rfl
  have hx : HExt H ((H.push ⟨[.int .i64 T, .int .i64 S, v], 1, false, false⟩).push ⟨[.int .i64 0, .int .i64 0, .slice none 0 0], 1, false, false⟩) := (hext_push H _).trans (hext_push _ _)
  have g1 : ((H.push ⟨[.int .i64 T, .int .i64 S, v], 1, false, false⟩).push ⟨[.int .i64 0, .int .i64 0, .slice none 0 0], 1, false, false⟩).get H.n = some ⟨[.int .i64 T, .int .i64 S, v], 1, false, false⟩ := by
    rw [AH.get_push, if_neg (by simp), AH.get_push, if_pos rfl]
  have g2 : ((H.push ⟨[.int .i64 T, .int .i64 S, v], 1, false, false⟩).push ⟨[.int .i64 0, .int .i64 0, .slice none 0 0], 1, false, false⟩).get (H.n + 1) = some ⟨[.int .i64 0, .int .i64 0, .slice none 0 0], 1, false, false⟩ := by
    rw [AH.get_push, if_pos (by simp)]
  have e3 := ld3 g1
  simp only [ofArgs, run_seq, run_block, run_ops, run_skip, run_exit, run_ret, thenQ_normal, thenQ_exit, thenQ_ret, blockQ_normal, blockQ_exit, blockQ_ret, retQ_ret, retQ_normal, ops_nil, ops_none, got_some, ops_wT, ops_wTn, ops_wF, ops_wFn, ops_wU, dops_wT, dops_wTn, dops_wF, dops_wFn, dops_wU, run_condT, run_condF, alt2_int, altB_bool, altI_int, altBB_bool, v_min, v_max, v_not, v_neg, optEv_none, optEv_some, isSome'_none, isSome'_some, pExt0, pExt1, pExt2, Bool.false_and, Bool.true_and, Bool.not_true, Bool.not_false, cond_true, cond_false, dops_nil, dops_none, xval_call, v_mov, v_bin, v_len, v_ext, v_idxA, v_ld, v_st, v_app, v_appN, v_cvs, v_bs1, pBs1, v_slc, v_conv, v_fld, v_fldA, v_new, v_box, v_mks, v_copy, v_isnil, v_nilck, v_pick, ev, evs_nil, evs_cons, fr_get_cons, fr_put_nil, fr_put_cons, fr_put_some, fr_put_none, fr_keep_nil, fr_keep_cons, fr_has_nil, fr_has_cons, Option.bind_some, Option.map_some, xbin, ibin, xresult_eq, xress_nil, xress_tmp, resV, ex_some, if_true, if_false, ite_true, ite_false, reduceIte, reduceCtorEq, Nat.reduceEqDiff, Nat.reduceLT, Nat.reduceLeDiff, Int.reduceLT, Int.reduceLE, Nat.zero_add, Nat.reduceAdd, Bool.false_eq_true, decide_eq_true_eq, decide_eq_false_iff_not, true_implies, false_implies, and_true, true_and, ev3, e3, AH.push_n]
  generalize hHa : ((H.push ⟨[.int .i64 T, .int .i64 S, v], 1, false, false⟩).push ⟨[.int .i64 0, .int .i64 0, .slice none 0 0], 1, false, false⟩) = Ha at hx g1 g2 e3
  have hna : Ha.n = H.n + 2 := by rw [← hHa]; simp
  refine place_ok T S t s v Ha L _ (hs.ext hx) hl hT hT2 hS hS2 hLL h0 h1 h2 h3 ?_
  intro H1 x1
  have hn1 := x1.1
  have g11 : H1.get H.n = some ⟨[.int .i64 T, .int .i64 S, v], 1, false, false⟩ := by rw [x1.2 _ (by omega)]; exact g1
  have g12 : H1.get (H.n + 1) = some ⟨[.int .i64 0, .int .i64 0, .slice none 0 0], 1, false, false⟩ := by rw [x1.2 _ (by omega)]; exact g2
  have b1 : Byts H1 vb bl := Sl.ext (hx.trans x1) hb
  have e4 := byts_len' b1
  rw [hbl] at e4
  have c1 : (((128 : Nat) : Int) != 128) = false := rfl
  have e5 := ld3 g11
  simp only [ofArgs, run_seq, run_block, run_ops, run_skip, run_exit, run_ret, thenQ_normal, thenQ_exit, thenQ_ret, blockQ_normal, blockQ_exit, blockQ_ret, retQ_ret, retQ_normal, ops_nil, ops_none, got_some, ops_wT, ops_wTn, ops_wF, ops_wFn, ops_wU, dops_wT, dops_wTn, dops_wF, dops_wFn, dops_wU, run_condT, run_condF, alt2_int, altB_bool, altI_int, altBB_bool, v_min, v_max, v_not, v_neg, optEv_none, optEv_some, isSome'_none, isSome'_some, pExt0, pExt1, pExt2, Bool.false_and, Bool.true_and, Bool.not_true, Bool.not_false, cond_true, cond_false, dops_nil, dops_none, xval_call, v_mov, v_bin, v_len, v_ext, v_idxA, v_ld, v_st, v_app, v_appN, v_cvs, v_bs1, pBs1, v_slc, v_conv, v_fld, v_fldA, v_new, v_box, v_mks, v_copy, v_isnil, v_nilck, v_pick, ev, evs_nil, evs_cons, fr_get_cons, fr_put_nil, fr_put_cons, fr_put_some, fr_put_none, fr_keep_nil, fr_keep_cons, fr_has_nil, fr_has_cons, Option.bind_some, Option.map_some, xbin, ibin, xresult_eq, xress_nil, xress_tmp, resV, ex_some, if_true, if_false, ite_true, ite_false, reduceIte, reduceCtorEq, Nat.reduceEqDiff, Nat.reduceLT, Nat.reduceLeDiff, Int.reduceLT, Int.reduceLE, Nat.zero_add, Nat.reduceAdd, Bool.false_eq_true, decide_eq_true_eq, decide_eq_false_iff_not, true_implies, false_implies, and_true, true_and, e4, e5, c1, bne_self_eq_false, hk]
  refine copy_ok T S v H H1 L _ hs (hx.trans x1) hl hL (by omega) ?_
  intro v' H2 o2 x2
  have hn2 := x2.1
  have hF : ∀ b, (H.n ≤ b ∧ b < H1.n) → b < H1.n := fun b hb => hb.2
  have g21 : H2.get H.n = some ⟨[.int .i64 T, .int .i64 S, v], 1, false, false⟩ := by rw [x2.2 _ (by omega)]; exact g11
  have g22 : H2.get (H.n + 1) = some ⟨[.int .i64 0, .int .i64 0, .slice none 0 0], 1, false, false⟩ := by rw [x2.2 _ (by omega)]; exact g12
  obtain ⟨q1, q2, q3⟩ := o2.secs.sl
  have e6 := st3 (a' := .int .i64 T) (b' := .int .i64 S) (c' := v') g21 rfl rfl q1
  have o3 : OwnS H1.n (fun b => H.n ≤ b ∧ b < H1.n) (H2.set H.n ⟨[.int .i64 T, .int .i64 S, v'], 1, false, false⟩) v' L := by
    refine o2.mono hF (Nat.le_refl _) fun b hb hf => ?_
    rw [AH.get_set, if_neg (fun e => hf ⟨by omega, by omega⟩)]
  have g31 : (H2.set H.n ⟨[.int .i64 T, .int .i64 S, v'], 1, false, false⟩).get H.n = some ⟨[.int .i64 T, .int .i64 S, v'], 1, false, false⟩ := by rw [AH.get_set, if_pos rfl]
  have g32 : (H2.set H.n ⟨[.int .i64 T, .int .i64 S, v'], 1, false, false⟩).get (H.n + 1) = some ⟨[.int .i64 0, .int .i64 0, .slice none 0 0], 1, false, false⟩ := by rw [AH.get_set, if_neg (by omega)]; exact g22
  have k3 : Keep H.n H (H2.set H.n ⟨[.int .i64 T, .int .i64 S, v'], 1, false, false⟩) := by
    refine Keep.trans (B := H2) ((hx.trans x1).trans x2) ⟨Nat.le_refl _, fun b hb => ?_⟩
    rw [AH.get_set, if_neg (by omega)]
  have hn3 : (H2.set H.n ⟨[.int .i64 T, .int .i64 S, v'], 1, false, false⟩).n = H2.n := rfl
  simp only [ofArgs, run_seq, run_block, run_ops, run_skip, run_exit, run_ret, thenQ_normal, thenQ_exit, thenQ_ret, blockQ_normal, blockQ_exit, blockQ_ret, retQ_ret, retQ_normal, ops_nil, ops_none, got_some, ops_wT, ops_wTn, ops_wF, ops_wFn, ops_wU, dops_wT, dops_wTn, dops_wF, dops_wFn, dops_wU, run_condT, run_condF, alt2_int, altB_bool, altI_int, altBB_bool, v_min, v_max, v_not, v_neg, optEv_none, optEv_some, isSome'_none, isSome'_some, pExt0, pExt1, pExt2, Bool.false_and, Bool.true_and, Bool.not_true, Bool.not_false, cond_true, cond_false, dops_nil, dops_none, xval_call, v_mov, v_bin, v_len, v_ext, v_idxA, v_ld, v_st, v_app, v_appN, v_cvs, v_bs1, pBs1, v_slc, v_conv, v_fld, v_fldA, v_new, v_box, v_mks, v_copy, v_isnil, v_nilck, v_pick, ev, evs_nil, evs_cons, fr_get_cons, fr_put_nil, fr_put_cons, fr_put_some, fr_put_none, fr_keep_nil, fr_keep_cons, fr_has_nil, fr_has_cons, Option.bind_some, Option.map_some, xbin, ibin, xresult_eq, xress_nil, xress_tmp, resV, ex_some, if_true, if_false, ite_true, ite_false, reduceIte, reduceCtorEq, Nat.reduceEqDiff, Nat.reduceLT, Nat.reduceLeDiff, Int.reduceLT, Int.reduceLE, Nat.zero_add, Nat.reduceAdd, Bool.false_eq_true, decide_eq_true_eq, decide_eq_false_iff_not, true_implies, false_implies, and_true, true_and, e6]
  generalize (H2.set H.n ⟨[.int .i64 T, .int .i64 S, v'], 1, false, false⟩) = H3 at o3 g31 g32 k3 hn3
  have e7 := ld3_2 g31
  have b3 : Byts H3 vb bl := Sl.ext k3 hb
  have hnn : ∃ B o l c, vb = .slice (some ⟨B, o, none⟩) l c := by
    obtain ⟨B, o, c, blk, e, _⟩ := Sl.live b3 (by omega)
    exact ⟨B, o, _, c, e⟩
  refine run_dopsS _ _ _ _ _ ?_
  simp only [ofArgs, run_seq, run_block, run_ops, run_skip, run_exit, run_ret, thenQ_normal, thenQ_exit, thenQ_ret, blockQ_normal, blockQ_exit, blockQ_ret, retQ_ret, retQ_normal, ops_nil, ops_none, got_some, ops_wT, ops_wTn, ops_wF, ops_wFn, ops_wU, dops_wT, dops_wTn, dops_wF, dops_wFn, dops_wU, run_condT, run_condF, alt2_int, altB_bool, altI_int, altBB_bool, v_min, v_max, v_not, v_neg, optEv_none, optEv_some, isSome'_none, isSome'_some, pExt0, pExt1, pExt2, Bool.false_and, Bool.true_and, Bool.not_true, Bool.not_false, cond_true, cond_false, dops_nil, dops_none, xval_call, v_mov, v_bin, v_len, v_ext, v_idxA, v_ld, v_st, v_app, v_appN, v_cvs, v_bs1, pBs1, v_slc, v_conv, v_fld, v_fldA, v_new, v_box, v_mks, v_copy, v_isnil, v_nilck, v_pick, ev, evs_nil, evs_cons, fr_get_cons, fr_put_nil, fr_put_cons, fr_put_some, fr_put_none, fr_keep_nil, fr_keep_cons, fr_has_nil, fr_has_cons, Option.bind_some, Option.map_some, xbin, ibin, xresult_eq, xress_nil, xress_tmp, resV, ex_some, if_true, if_false, ite_true, ite_false, reduceIte, reduceCtorEq, Nat.reduceEqDiff, Nat.reduceLT, Nat.reduceLeDiff, Int.reduceLT, Int.reduceLE, Nat.zero_add, Nat.reduceAdd, Bool.false_eq_true, decide_eq_true_eq, decide_eq_false_iff_not, true_implies, false_implies, and_true, true_and, dr_nil, dr_cons, hs0, hs1, hs2, hs3, addC_nil, addC_cons, stabAll_nil, stabAll_cons, stab1_nil, stab1_cons, hat_cons, xval_wT, xval_wTn, xval_wF, xval_wFn, veq_int, veq_bool, veq_ptr, veq_sl, pFldA_ptr, e7]
  refine clone_ok bl (by omega) vb H3 _ b3 hnn ?_
  intro y H4 o4 x4
  have hn4 := x4.1
  have o4' := o3.ext hF x4
  obtain ⟨x', p1, _, _⟩ := o4'.secs.at (k : Int) k rfl hkl
  have g41 : H4.get H.n = some ⟨[.int .i64 T, .int .i64 S, v'], 1, false, false⟩ := by rw [x4.2 _ (by omega)]; exact g31
  have g42 : H4.get (H.n + 1) = some ⟨[.int .i64 0, .int .i64 0, .slice none 0 0], 1, false, false⟩ := by rw [x4.2 _ (by omega)]; exact g32
  simp only [ofArgs, run_seq, run_block, run_ops, run_skip, run_exit, run_ret, thenQ_normal, thenQ_exit, thenQ_ret, blockQ_normal, blockQ_exit, blockQ_ret, retQ_ret, retQ_normal, ops_nil, ops_none, got_some, ops_wT, ops_wTn, ops_wF, ops_wFn, ops_wU, dops_wT, dops_wTn, dops_wF, dops_wFn, dops_wU, run_condT, run_condF, alt2_int, altB_bool, altI_int, altBB_bool, v_min, v_max, v_not, v_neg, optEv_none, optEv_some, isSome'_none, isSome'_some, pExt0, pExt1, pExt2, Bool.false_and, Bool.true_and, Bool.not_true, Bool.not_false, cond_true, cond_false, dops_nil, dops_none, xval_call, v_mov, v_bin, v_len, v_ext, v_idxA, v_ld, v_st, v_app, v_appN, v_cvs, v_bs1, pBs1, v_slc, v_conv, v_fld, v_fldA, v_new, v_box, v_mks, v_copy, v_isnil, v_nilck, v_pick, ev, evs_nil, evs_cons, fr_get_cons, fr_put_nil, fr_put_cons, fr_put_some, fr_put_none, fr_keep_nil, fr_keep_cons, fr_has_nil, fr_has_cons, Option.bind_some, Option.map_some, xbin, ibin, xresult_eq, xress_nil, xress_tmp, resV, ex_some, if_true, if_false, ite_true, ite_false, reduceIte, reduceCtorEq, Nat.reduceEqDiff, Nat.reduceLT, Nat.reduceLeDiff, Int.reduceLT, Int.reduceLE, Nat.zero_add, Nat.reduceAdd, Bool.false_eq_true, decide_eq_true_eq, decide_eq_false_iff_not, true_implies, false_implies, and_true, true_and, dr_nil, dr_cons, hs0, hs1, hs2, hs3, addC_nil, addC_cons, stabAll_nil, stabAll_cons, stab1_nil, stab1_cons, hat_cons, xval_wT, xval_wTn, xval_wF, xval_wFn, veq_int, veq_bool, veq_ptr, veq_sl, p1]
  refine stS o4' o4.1 (fun b hb => ?_) hkl ?_
  · obtain ⟨o2, l2, c2, e⟩ := hb
    have hb2 := (o4.2 b o2 l2 c2 e).1
    exact ⟨fun hv => by have := (o3.lt hv).2; omega, fun hf => by omega⟩
  intro H5 o5 st
  have hn5 := st.n
  have hP : ∀ b, b < H1.n → ¬ inB v' b := fun b hb hv => by have := (o3.lt hv).1; omega
  have g51 : H5.get H.n = some ⟨[.int .i64 T, .int .i64 S, v'], 1, false, false⟩ := by rw [st.get _ (by omega) (hP _ (by omega))]; exact g41
  have g52 : H5.get (H.n + 1) = some ⟨[.int .i64 0, .int .i64 0, .slice none 0 0], 1, false, false⟩ := by rw [st.get _ (by omega) (hP _ (by omega))]; exact g42
  have k5 : Keep H.n H H5 := k3.trans (Keep.trans (HExt.keep x4 (by omega)) ⟨hn5, fun b hb => st.get b (by omega) (hP b (by omega))⟩)
  have e7' := ld3_2 g41
  have e8 := ld3 g51
  have e9 := st3 (a' := .int .i64 T) (b' := .int .i64 S) (c' := v') g52 rfl rfl q1
  have g6 : (H5.set (H.n + 1) ⟨[.int .i64 T, .int .i64 S, v'], 1, false, false⟩).get (H.n + 1) = some ⟨[.int .i64 T, .int .i64 S, v'], 1, false, false⟩ := by rw [AH.get_set, if_pos rfl]
  have hcell : ∀ (fr : Fr) (xs : List XRes), fr.get 8 = some (.pointer (some ⟨H.n + 1, 0, none⟩)) → xress fr (H5.set (H.n + 1) ⟨[.int .i64 T, .int .i64 S, v'], 1, false, false⟩) (.cell 8 (some 3) :: xs) = (xress fr (H5.set (H.n + 1) ⟨[.int .i64 T, .int .i64 S, v'], 1, false, false⟩) xs).map fun vs => .agg #[.int .i64 T, .int .i64 S, v'] :: vs := by
    intro fr xs hfr
    exact xress_cell fr _ 8 _ 0 (some 3) _ (.agg #[.int .i64 T, .int .i64 S, v']) xs hfr g6 rfl
  simp only [ofArgs, run_seq, run_block, run_ops, run_skip, run_exit, run_ret, thenQ_normal, thenQ_exit, thenQ_ret, blockQ_normal, blockQ_exit, blockQ_ret, retQ_ret, retQ_normal, ops_nil, ops_none, got_some, ops_wT, ops_wTn, ops_wF, ops_wFn, ops_wU, dops_wT, dops_wTn, dops_wF, dops_wFn, dops_wU, run_condT, run_condF, alt2_int, altB_bool, altI_int, altBB_bool, v_min, v_max, v_not, v_neg, optEv_none, optEv_some, isSome'_none, isSome'_some, pExt0, pExt1, pExt2, Bool.false_and, Bool.true_and, Bool.not_true, Bool.not_false, cond_true, cond_false, dops_nil, dops_none, xval_call, v_mov, v_bin, v_len, v_ext, v_idxA, v_ld, v_st, v_app, v_appN, v_cvs, v_bs1, pBs1, v_slc, v_conv, v_fld, v_fldA, v_new, v_box, v_mks, v_copy, v_isnil, v_nilck, v_pick, ev, evs_nil, evs_cons, fr_get_cons, fr_put_nil, fr_put_cons, fr_put_some, fr_put_none, fr_keep_nil, fr_keep_cons, fr_has_nil, fr_has_cons, Option.bind_some, Option.map_some, xbin, ibin, xresult_eq, xress_nil, xress_tmp, resV, ex_some, if_true, if_false, ite_true, ite_false, reduceIte, reduceCtorEq, Nat.reduceEqDiff, Nat.reduceLT, Nat.reduceLeDiff, Int.reduceLT, Int.reduceLE, Nat.zero_add, Nat.reduceAdd, Bool.false_eq_true, decide_eq_true_eq, decide_eq_false_iff_not, true_implies, false_implies, and_true, true_and, dr_nil, dr_cons, hs0, hs1, hs2, hs3, addC_nil, addC_cons, stabAll_nil, stabAll_cons, stab1_nil, stab1_cons, hat_cons, xval_wT, xval_wTn, xval_wF, xval_wFn, veq_int, veq_bool, veq_ptr, veq_sl, pFldA_ptr, e7', q3, e8, e9, hcell]
  refine hq v' _ ?_ ?_
  · have := o5.mono (H' := H5.set (H.n + 1) ⟨[.int .i64 T, .int .i64 S, v'], 1, false, false⟩) hF (Nat.le_refl _) fun b hb hf => by
      rw [AH.get_set, if_neg (fun e => hf ⟨by omega, by omega⟩)]
    exact this.secs
  · refine k5.trans ⟨Nat.le_refl _, fun b hb => ?_⟩
    rw [AH.get_set, if_neg (by omega)]

/-! ### a disk of raw numbers -/
theorem Strm.mono {n0 : Nat} {H H' : AH} {B : Nat} {v : Value} {l : List Int} (h : Strm n0 H B v l) (hn : H.n ≤ H'.n) (hg : ∀ b, b < n0 ∨ b = B → H'.get b = H.get b) : Strm n0 H' B v l :=
  ⟨h.nb, by have := h.lt; omega, by rw [hg B (.inr rfl)]; exact h.box, Sl.same h.ints hn fun b hb => hg b (.inl (h.out b hb)), h.out⟩

theorem disk_l0 (n1 : Nat) (p2 p3 p4 : Value) (x y N j : Int) (vb : Value) (r : Nat) : ∀ (k : Nat) (l : List Int) (H : AH) (i : Int) (Q : XExit → Fr → AH → Prop), k + r = 128 → i = (k : Int) → OwnB n1 H vb l → l.length = 128 → n1 ≤ H.n →
    (∀ H' l', OwnB n1 H' vb l' → l'.length = 128 → Keep n1 H H' → Q (.exit 2) [(2, p2), (3, p3), (4, p4), (5, .int .i64 x), (6, .int .i64 y), (7, vb), (23, .int .i64 N), (24, .int .i64 j), (32, .int .i64 128), (33, .int .i64 128), (34, .bool false)] H') →
    Run Try.prog tab (.loop xbakemake_Disk_l0) [(2, p2), (3, p3), (4, p4), (5, .int .i64 x), (6, .int .i64 y), (7, vb), (23, .int .i64 N), (24, .int .i64 j), (32, .int .i64 128), (33, .int .i64 i)] H Q := by
  induction r with
  | zero =>
    intro k l H i Q hk hi ho hl hn hq
    rw [run_loop]
    generalize hL : XCode.loop xbakemake_Disk_l0 = LL
    obtain rfl : i = 128 := by omega
    simp only [xbakemake_Disk_l0, ofArgs, run_seq, run_block, run_ops, run_skip, run_exit, run_ret, thenQ_normal, thenQ_exit, thenQ_ret, blockQ_normal, blockQ_exit, blockQ_ret, retQ_ret, retQ_normal, ops_nil, ops_none, got_some, ops_wT, ops_wTn, ops_wF, ops_wFn, ops_wU, dops_wT, dops_wTn, dops_wF, dops_wFn, dops_wU, run_condT, run_condF, alt2_int, altB_bool, altI_int, altBB_bool, v_min, v_max, v_not, v_neg, optEv_none, optEv_some, isSome'_none, isSome'_some, pExt0, pExt1, pExt2, Bool.false_and, Bool.true_and, Bool.not_true, Bool.not_false, cond_true, cond_false, dops_nil, dops_none, xval_call, v_mov, v_bin, v_len, v_ext, v_idxA, v_ld, v_st, v_app, v_appN, v_cvs, v_bs1, pBs1, v_slc, v_conv, v_fld, v_fldA, v_new, v_box, v_mks, v_copy, v_isnil, v_nilck, v_pick, ev, evs_nil, evs_cons, fr_get_cons, fr_put_nil, fr_put_cons, fr_put_some, fr_put_none, fr_keep_nil, fr_keep_cons, fr_has_nil, fr_has_cons, Option.bind_some, Option.map_some, xbin, ibin, xresult_eq, xress_nil, xress_tmp, resV, ex_some, if_true, if_false, ite_true, ite_false, reduceIte, reduceCtorEq, Nat.reduceEqDiff, Nat.reduceLT, Nat.reduceLeDiff, Int.reduceLT, Int.reduceLE, Nat.zero_add, Nat.reduceAdd, Bool.false_eq_true, decide_eq_true_eq, decide_eq_false_iff_not, true_implies, false_implies, and_true, true_and, Int.lt_irrefl, decide_false]
    exact hq H l ho hl (.refl _ _)
  | succ r ih =>
    intro k l H i Q hk hi ho hl hn hq
    have ih' := ih (k + 1)
    rw [run_loop]
    generalize hL : XCode.loop xbakemake_Disk_l0 = LL
    rw [hL] at ih'
    have hlt : i < 128 := by omega
    have e1 := byts_idx ho.1 i k hi (by omega)
    have e4 := wrI (i + 1) (by omega) (by omega)
    simp only [xbakemake_Disk_l0, ofArgs, run_seq, run_block, run_ops, run_skip, run_exit, run_ret, thenQ_normal, thenQ_exit, thenQ_ret, blockQ_normal, blockQ_exit, blockQ_ret, retQ_ret, retQ_normal, ops_nil, ops_none, got_some, ops_wT, ops_wTn, ops_wF, ops_wFn, ops_wU, dops_wT, dops_wTn, dops_wF, dops_wFn, dops_wU, run_condT, run_condF, alt2_int, altB_bool, altI_int, altBB_bool, v_min, v_max, v_not, v_neg, optEv_none, optEv_some, isSome'_none, isSome'_some, pExt0, pExt1, pExt2, Bool.false_and, Bool.true_and, Bool.not_true, Bool.not_false, cond_true, cond_false, dops_nil, dops_none, xval_call, v_mov, v_bin, v_len, v_ext, v_idxA, v_ld, v_st, v_app, v_appN, v_cvs, v_bs1, pBs1, v_slc, v_conv, v_fld, v_fldA, v_new, v_box, v_mks, v_copy, v_isnil, v_nilck, v_pick, ev, evs_nil, evs_cons, fr_get_cons, fr_put_nil, fr_put_cons, fr_put_some, fr_put_none, fr_keep_nil, fr_keep_cons, fr_has_nil, fr_has_cons, Option.bind_some, Option.map_some, xbin, ibin, xresult_eq, xress_nil, xress_tmp, resV, ex_some, if_true, if_false, ite_true, ite_false, reduceIte, reduceCtorEq, Nat.reduceEqDiff, Nat.reduceLT, Nat.reduceLeDiff, Int.reduceLT, Int.reduceLE, Nat.zero_add, Nat.reduceAdd, Bool.false_eq_true, decide_eq_true_eq, decide_eq_false_iff_not, true_implies, false_implies, and_true, true_and, hlt, decide_true, e1, pConv]
    refine pSt_own ho (by simp; omega) rfl rfl ?_
    intro H' o' st
    have kk := st.keep ho hn
    simp only [ofArgs, run_seq, run_block, run_ops, run_skip, run_exit, run_ret, thenQ_normal, thenQ_exit, thenQ_ret, blockQ_normal, blockQ_exit, blockQ_ret, retQ_ret, retQ_normal, ops_nil, ops_none, got_some, ops_wT, ops_wTn, ops_wF, ops_wFn, ops_wU, dops_wT, dops_wTn, dops_wF, dops_wFn, dops_wU, run_condT, run_condF, alt2_int, altB_bool, altI_int, altBB_bool, v_min, v_max, v_not, v_neg, optEv_none, optEv_some, isSome'_none, isSome'_some, pExt0, pExt1, pExt2, Bool.false_and, Bool.true_and, Bool.not_true, Bool.not_false, cond_true, cond_false, dops_nil, dops_none, xval_call, v_mov, v_bin, v_len, v_ext, v_idxA, v_ld, v_st, v_app, v_appN, v_cvs, v_bs1, pBs1, v_slc, v_conv, v_fld, v_fldA, v_new, v_box, v_mks, v_copy, v_isnil, v_nilck, v_pick, ev, evs_nil, evs_cons, fr_get_cons, fr_put_nil, fr_put_cons, fr_put_some, fr_put_none, fr_keep_nil, fr_keep_cons, fr_has_nil, fr_has_cons, Option.bind_some, Option.map_some, xbin, ibin, xresult_eq, xress_nil, xress_tmp, resV, ex_some, if_true, if_false, ite_true, ite_false, reduceIte, reduceCtorEq, Nat.reduceEqDiff, Nat.reduceLT, Nat.reduceLeDiff, Int.reduceLT, Int.reduceLE, Nat.zero_add, Nat.reduceAdd, Bool.false_eq_true, decide_eq_true_eq, decide_eq_false_iff_not, true_implies, false_implies, and_true, true_and, e4]
    refine ih' (l.set k (IntKind.u8.wrap (IntKind.i64.wrap (x + IntKind.i64.wrap (i * y))))) H' (i + 1) Q (by omega) (by omega) ?_ (by simpa using hl) (by have := kk.1; omega) ?_
    · unfold OwnB
      rw [List.length_set, List.map_set]
      exact o'
    · intro H2 l2 o2 hl2 k2
      exact hq H2 l2 o2 hl2 (kk.trans k2)

theorem disk_l1 (n0 D B E : Nat) (T S : Int) (hB0 : n0 ≤ B) (hD0 : n0 ≤ D) (hE0 : n0 ≤ E) (hBD : B ≠ D) (hEB : E ≠ B) (hED : E ≠ D) (n1 : Nat) (hBn : B < n1) (hDn : D < n1) (hEn : E < n1) (N : Int) (hN : N ≤ 20) (z : Blk) (r : Nat) :
    ∀ (k : Nat) (H : AH) (sv : Value) (sl : List Int) (vd : Value) (L : List (List Int)) (i : Int) (Q : XExit → Fr → AH → Prop), k + r = N.toNat → 0 ≤ N → i = (k : Int) → L.length = k → Strm n0 H B sv sl → H.get D = some ⟨[.int .i64 T, .int .i64 S, vd], 1, false, false⟩ → H.get E = some z → OwnS n1 (fun b => b < n1) H vd L → (∀ l ∈ L, l.length = 128) → n1 ≤ H.n →
    (∀ H' vd' L', L'.length = N.toNat → (∀ l ∈ L', l.length = 128) → OwnS n1 (fun b => b < n1) H' vd' L' → H'.get D = some ⟨[.int .i64 T, .int .i64 S, vd'], 1, false, false⟩ → H'.get E = some z → Keep n0 H H' →
      Q (.exit 0) [(2, .pointer (some ⟨E, 0, none⟩)), (3, .pointer (some ⟨B, 0, none⟩)), (4, .pointer (some ⟨D, 0, none⟩)), (23, .int .i64 N), (24, .int .i64 N), (25, .bool false)] H') →
    Run Try.prog tab (.loop xbakemake_Disk_l1) [(2, .pointer (some ⟨E, 0, none⟩)), (3, .pointer (some ⟨B, 0, none⟩)), (4, .pointer (some ⟨D, 0, none⟩)), (23, .int .i64 N), (24, .int .i64 i)] H Q := by
  have hF : ∀ b, b < n1 → b < n1 := fun b h => h
  induction r with
  | zero =>
    intro k H sv sl vd L i Q hk hN0 hi hLk hstr hDg hEg ho hl hn hq
    rw [run_loop]
    generalize hLL : XCode.loop xbakemake_Disk_l1 = LL
    obtain rfl : i = N := by omega
    have hf : ¬ i < i := by omega
    simp only [xbakemake_Disk_l1, ofArgs, run_seq, run_block, run_ops, run_skip, run_exit, run_ret, thenQ_normal, thenQ_exit, thenQ_ret, blockQ_normal, blockQ_exit, blockQ_ret, retQ_ret, retQ_normal, ops_nil, ops_none, got_some, ops_wT, ops_wTn, ops_wF, ops_wFn, ops_wU, dops_wT, dops_wTn, dops_wF, dops_wFn, dops_wU, run_condT, run_condF, alt2_int, altB_bool, altI_int, altBB_bool, v_min, v_max, v_not, v_neg, optEv_none, optEv_some, isSome'_none, isSome'_some, pExt0, pExt1, pExt2, Bool.false_and, Bool.true_and, Bool.not_true, Bool.not_false, cond_true, cond_false, dops_nil, dops_none, xval_call, v_mov, v_bin, v_len, v_ext, v_idxA, v_ld, v_st, v_app, v_appN, v_cvs, v_bs1, pBs1, v_slc, v_conv, v_fld, v_fldA, v_new, v_box, v_mks, v_copy, v_isnil, v_nilck, v_pick, ev, evs_nil, evs_cons, fr_get_cons, fr_put_nil, fr_put_cons, fr_put_some, fr_put_none, fr_keep_nil, fr_keep_cons, fr_has_nil, fr_has_cons, Option.bind_some, Option.map_some, xbin, ibin, xresult_eq, xress_nil, xress_tmp, resV, ex_some, if_true, if_false, ite_true, ite_false, reduceIte, reduceCtorEq, Nat.reduceEqDiff, Nat.reduceLT, Nat.reduceLeDiff, Int.reduceLT, Int.reduceLE, Nat.zero_add, Nat.reduceAdd, Bool.false_eq_true, decide_eq_true_eq, decide_eq_false_iff_not, true_implies, false_implies, and_true, true_and, hf, decide_false]
    exact hq H vd L (by omega) hl ho hDg hEg (.refl _ _)
  | succ r ih =>
    intro k H sv sl vd L i Q hk hN0 hi hLk hstr hDg hEg ho hl hn hq
    have ih' := ih (k + 1)
    rw [run_loop]
    generalize hLL : XCode.loop xbakemake_Disk_l1 = LL
    rw [hLL] at ih'
    have hlt : i < N := by omega
    simp only [xbakemake_Disk_l1, ofArgs, run_seq, run_block, run_ops, run_skip, run_exit, run_ret, thenQ_normal, thenQ_exit, thenQ_ret, blockQ_normal, blockQ_exit, blockQ_ret, retQ_ret, retQ_normal, ops_nil, ops_none, got_some, ops_wT, ops_wTn, ops_wF, ops_wFn, ops_wU, dops_wT, dops_wTn, dops_wF, dops_wFn, dops_wU, run_condT, run_condF, alt2_int, altB_bool, altI_int, altBB_bool, v_min, v_max, v_not, v_neg, optEv_none, optEv_some, isSome'_none, isSome'_some, pExt0, pExt1, pExt2, Bool.false_and, Bool.true_and, Bool.not_true, Bool.not_false, cond_true, cond_false, dops_nil, dops_none, xval_call, v_mov, v_bin, v_len, v_ext, v_idxA, v_ld, v_st, v_app, v_appN, v_cvs, v_bs1, pBs1, v_slc, v_conv, v_fld, v_fldA, v_new, v_box, v_mks, v_copy, v_isnil, v_nilck, v_pick, ev, evs_nil, evs_cons, fr_get_cons, fr_put_nil, fr_put_cons, fr_put_some, fr_put_none, fr_keep_nil, fr_keep_cons, fr_has_nil, fr_has_cons, Option.bind_some, Option.map_some, xbin, ibin, xresult_eq, xress_nil, xress_tmp, resV, ex_some, if_true, if_false, ite_true, ite_false, reduceIte, reduceCtorEq, Nat.reduceEqDiff, Nat.reduceLT, Nat.reduceLeDiff, Int.reduceLT, Int.reduceLE, Nat.zero_add, Nat.reduceAdd, Bool.false_eq_true, decide_eq_true_eq, decide_eq_false_iff_not, true_implies, false_implies, and_true, true_and, hlt, decide_true]
    refine next_ok n0 B sv sl 256 (by omega) (by omega) H _ hstr ?_
    intro sv1 H1 hn1 hg1 hs1
    refine next_ok n0 B sv1 sl.tail 7 (by omega) (by omega) H1 _ hs1 ?_
    intro sv2 H2 hn2 hg2 hs2
    have hg12 : ∀ b, b ≠ B → H2.get b = H.get b := fun b hb => (hg2 b hb).trans (hg1 b hb)
    have hmk := pMks_ok (.int .u8 0) 128 (by omega) .i64 H2 128 rfl
    simp only [ofArgs, run_seq, run_block, run_ops, run_skip, run_exit, run_ret, thenQ_normal, thenQ_exit, thenQ_ret, blockQ_normal, blockQ_exit, blockQ_ret, retQ_ret, retQ_normal, ops_nil, ops_none, got_some, ops_wT, ops_wTn, ops_wF, ops_wFn, ops_wU, dops_wT, dops_wTn, dops_wF, dops_wFn, dops_wU, run_condT, run_condF, alt2_int, altB_bool, altI_int, altBB_bool, v_min, v_max, v_not, v_neg, optEv_none, optEv_some, isSome'_none, isSome'_some, pExt0, pExt1, pExt2, Bool.false_and, Bool.true_and, Bool.not_true, Bool.not_false, cond_true, cond_false, dops_nil, dops_none, xval_call, v_mov, v_bin, v_len, v_ext, v_idxA, v_ld, v_st, v_app, v_appN, v_cvs, v_bs1, pBs1, v_slc, v_conv, v_fld, v_fldA, v_new, v_box, v_mks, v_copy, v_isnil, v_nilck, v_pick, ev, evs_nil, evs_cons, fr_get_cons, fr_put_nil, fr_put_cons, fr_put_some, fr_put_none, fr_keep_nil, fr_keep_cons, fr_has_nil, fr_has_cons, Option.bind_some, Option.map_some, xbin, ibin, xresult_eq, xress_nil, xress_tmp, resV, ex_some, if_true, if_false, ite_true, ite_false, reduceIte, reduceCtorEq, Nat.reduceEqDiff, Nat.reduceLT, Nat.reduceLeDiff, Int.reduceLT, Int.reduceLE, Nat.zero_add, Nat.reduceAdd, Bool.false_eq_true, decide_eq_true_eq, decide_eq_false_iff_not, true_implies, false_implies, and_true, true_and, hmk, pLen]
    have x3 := hext_push H2 ⟨rep 128 [.int .u8 0], 1, false, false⟩
    have ob : OwnB H2.n (H2.push ⟨rep 128 [.int .u8 0], 1, false, false⟩) (.slice (some ⟨H2.n, 0, none⟩) 128 128) (List.replicate 128 0) := by
      have hp := Own.pushed H2 (rep 128 [.int .u8 0]) 1 128 false (by rw [rep_length]; simp)
      unfold OwnB
      rw [rep_one] at hp
      simpa [rep_one] using hp
    refine disk_l0 H2.n _ _ _ _ _ N i (.slice (some ⟨H2.n, 0, none⟩) 128 128) 128 0 (List.replicate 128 0) _ 0 _ (by omega) rfl ob (by simp) (by simp) ?_
    intro H4 l' o4 hl4 k4
    have x24 : HExt H2 H4 := Keep.trans (n0 := H2.n) x3 k4
    have hn4 := x24.1
    have ho2 : OwnS n1 (fun b => b < n1) H2 vd L := ho.mono hF (by omega) fun b hb hf => hg12 b (fun e => hf (by omega))
    have ho4 := ho2.ext hF x24
    have hD4 : H4.get D = some ⟨[.int .i64 T, .int .i64 S, vd], 1, false, false⟩ := by rw [x24.2 _ (by omega), hg12 D (fun e => hBD e.symm)]; exact hDg
    have hE4 : H4.get E = some z := by rw [x24.2 _ (by omega), hg12 E hEB]; exact hEg
    have e1 := ld3_2 hD4
    simp only [ofArgs, run_seq, run_block, run_ops, run_skip, run_exit, run_ret, thenQ_normal, thenQ_exit, thenQ_ret, blockQ_normal, blockQ_exit, blockQ_ret, retQ_ret, retQ_normal, ops_nil, ops_none, got_some, ops_wT, ops_wTn, ops_wF, ops_wFn, ops_wU, dops_wT, dops_wTn, dops_wF, dops_wFn, dops_wU, run_condT, run_condF, alt2_int, altB_bool, altI_int, altBB_bool, v_min, v_max, v_not, v_neg, optEv_none, optEv_some, isSome'_none, isSome'_some, pExt0, pExt1, pExt2, Bool.false_and, Bool.true_and, Bool.not_true, Bool.not_false, cond_true, cond_false, dops_nil, dops_none, xval_call, v_mov, v_bin, v_len, v_ext, v_idxA, v_ld, v_st, v_app, v_appN, v_cvs, v_bs1, pBs1, v_slc, v_conv, v_fld, v_fldA, v_new, v_box, v_mks, v_copy, v_isnil, v_nilck, v_pick, ev, evs_nil, evs_cons, fr_get_cons, fr_put_nil, fr_put_cons, fr_put_some, fr_put_none, fr_keep_nil, fr_keep_cons, fr_has_nil, fr_has_cons, Option.bind_some, Option.map_some, xbin, ibin, xresult_eq, xress_nil, xress_tmp, resV, ex_some, if_true, if_false, ite_true, ite_false, reduceIte, reduceCtorEq, Nat.reduceEqDiff, Nat.reduceLT, Nat.reduceLeDiff, Int.reduceLT, Int.reduceLE, Nat.zero_add, Nat.reduceAdd, Bool.false_eq_true, decide_eq_true_eq, decide_eq_false_iff_not, true_implies, false_implies, and_true, true_and, pFldA_ptr, e1]
    refine appS ho4 (by omega) o4.1 (fun b hb => ?_) (by omega) ?_
    · obtain ⟨o2, l2, c2, e⟩ := hb
      have hb2 := (o4.2 b o2 l2 c2 e).1
      exact ⟨fun hv => by have := (ho2.lt hv).2; omega, fun hf => by omega⟩
    intro vd' H5 o5 st
    have hn5 := st.n
    have hP : ∀ b, b < n1 → ¬ inB vd b := fun b hb hv => by have := (ho4.lt hv).1; omega
    have hD5 : H5.get D = some ⟨[.int .i64 T, .int .i64 S, vd], 1, false, false⟩ := by rw [st.get D (by omega) (hP D hDn)]; exact hD4
    have hE5 : H5.get E = some z := by rw [st.get E (by omega) (hP E hEn)]; exact hE4
    obtain ⟨q1, q2, _⟩ := o5.secs.sl
    have e2 := st3_2 hD5 q1 q2
    have e4 := wrI (i + 1) (by omega) (by omega)
    simp only [ofArgs, run_seq, run_block, run_ops, run_skip, run_exit, run_ret, thenQ_normal, thenQ_exit, thenQ_ret, blockQ_normal, blockQ_exit, blockQ_ret, retQ_ret, retQ_normal, ops_nil, ops_none, got_some, ops_wT, ops_wTn, ops_wF, ops_wFn, ops_wU, dops_wT, dops_wTn, dops_wF, dops_wFn, dops_wU, run_condT, run_condF, alt2_int, altB_bool, altI_int, altBB_bool, v_min, v_max, v_not, v_neg, optEv_none, optEv_some, isSome'_none, isSome'_some, pExt0, pExt1, pExt2, Bool.false_and, Bool.true_and, Bool.not_true, Bool.not_false, cond_true, cond_false, dops_nil, dops_none, xval_call, v_mov, v_bin, v_len, v_ext, v_idxA, v_ld, v_st, v_app, v_appN, v_cvs, v_bs1, pBs1, v_slc, v_conv, v_fld, v_fldA, v_new, v_box, v_mks, v_copy, v_isnil, v_nilck, v_pick, ev, evs_nil, evs_cons, fr_get_cons, fr_put_nil, fr_put_cons, fr_put_some, fr_put_none, fr_keep_nil, fr_keep_cons, fr_has_nil, fr_has_cons, Option.bind_some, Option.map_some, xbin, ibin, xresult_eq, xress_nil, xress_tmp, resV, ex_some, if_true, if_false, ite_true, ite_false, reduceIte, reduceCtorEq, Nat.reduceEqDiff, Nat.reduceLT, Nat.reduceLeDiff, Int.reduceLT, Int.reduceLE, Nat.zero_add, Nat.reduceAdd, Bool.false_eq_true, decide_eq_true_eq, decide_eq_false_iff_not, true_implies, false_implies, and_true, true_and, pFldA_ptr, e2, e4]
    have hget6 : ∀ b, b < n1 → b ≠ D → b ≠ B → (H5.set D ⟨[.int .i64 T, .int .i64 S, vd'], 1, false, false⟩).get b = H.get b := by
      intro b hb hbd hbb
      rw [AH.get_set, if_neg hbd, st.get b (by omega) (hP b hb), x24.2 _ (by omega), hg12 b hbb]
    have hs6 : Strm n0 (H5.set D ⟨[.int .i64 T, .int .i64 S, vd'], 1, false, false⟩) B sv2 sl.tail.tail := by
      refine hs2.mono (by show _ ≤ H5.n; omega) fun b hb => ?_
      have hbn : b < n1 := by omega
      rw [AH.get_set, if_neg (by omega), st.get b (by omega) (hP b hbn), x24.2 _ (by omega)]
    have o6 : OwnS n1 (fun b => b < n1) (H5.set D ⟨[.int .i64 T, .int .i64 S, vd'], 1, false, false⟩) vd' (L ++ [l']) := by
      refine o5.mono hF (Nat.le_refl _) fun b hb hf => ?_
      rw [AH.get_set, if_neg (fun e => hf (by omega))]
    refine ih' (H5.set D ⟨[.int .i64 T, .int .i64 S, vd'], 1, false, false⟩) sv2 sl.tail.tail vd' (L ++ [l']) (i + 1) Q (by omega) hN0 (by omega) (by simp; omega) hs6 (by rw [AH.get_set, if_pos rfl]) (by rw [AH.get_set, if_neg hED]; exact hE5) o6 ?_ (by show _ ≤ H5.n; omega) ?_
    · intro l hml
      rcases List.mem_append.1 hml with h | h
      · exact hl l h
      · simp at h; rw [h]; exact hl4
    · intro H7 vd7 L7 a1 a2 a3 a4 a5 k7
      refine hq H7 vd7 L7 a1 a2 a3 a4 a5 (Keep.trans ⟨by show _ ≤ H5.n; omega, fun b hb => hget6 b (by omega) (by omega) (by omega)⟩ k7)

theorem disk_ok (l : List Int) (s : Value) (H : AH) (Q : Value → AH → Prop) (hs : Ints H s l) (hq : ∀ (T S : Int) (v : Value) (L : List (List Int)) (H' : AH), 1 ≤ T → T ≤ 3 → 1 ≤ S → S ≤ 4 → (L.length : Int) = T * S → (∀ l ∈ L, l.length = 128) → Secs H' v L → HExt H H' → Q (.agg #[.int .i64 T, .int .i64 S, v]) H') :
    Got (xc Try.prog tab 27 [s] H) Q := by
  refine got_call (res := [.cell 2 (some 3)]) rfl ?_
  obtain ⟨o1, o2⟩ := sl_slice hs
  have o3 := fun H => pMk1_slice H o1 o2
  simp only [ofArgs, run_seq, run_block, run_ops, run_skip, run_exit, run_ret, thenQ_normal, thenQ_exit, thenQ_ret, blockQ_normal, blockQ_exit, blockQ_ret, retQ_ret, retQ_normal, ops_nil, ops_none, got_some, ops_wT, ops_wTn, ops_wF, ops_wFn, ops_wU, dops_wT, dops_wTn, dops_wF, dops_wFn, dops_wU, run_condT, run_condF, alt2_int, altB_bool, altI_int, altBB_bool, v_min, v_max, v_not, v_neg, optEv_none, optEv_some, isSome'_none, isSome'_some, pExt0, pExt1, pExt2, Bool.false_and, Bool.true_and, Bool.not_true, Bool.not_false, cond_true, cond_false, dops_nil, dops_none, xval_call, v_mov, v_bin, v_len, v_ext, v_idxA, v_ld, v_st, v_app, v_appN, v_cvs, v_bs1, pBs1, v_slc, v_conv, v_fld, v_fldA, v_new, v_box, v_mks, v_copy, v_isnil, v_nilck, v_pick, ev, evs_nil, evs_cons, fr_get_cons, fr_put_nil, fr_put_cons, fr_put_some, fr_put_none, fr_keep_nil, fr_keep_cons, fr_has_nil, fr_has_cons, Option.bind_some, Option.map_some, xbin, ibin, xresult_eq, xress_nil, xress_tmp, resV, ex_some, if_true, if_false, ite_true, ite_false, reduceIte, reduceCtorEq, Nat.reduceEqDiff, Nat.reduceLT, Nat.reduceLeDiff, Int.reduceLT, Int.reduceLE, Nat.zero_add, Nat.reduceAdd, Bool.false_eq_true, decide_eq_true_eq, decide_eq_false_iff_not, true_implies, false_implies, and_true, true_and, v_mk1, o3, box1, AH.push_n]
  have x1 : HExt H ((H.push ⟨[.int .i64 0, .int .i64 0, .slice none 0 0], 1, false, false⟩).push ⟨[s], 1, false, false⟩) := (hext_push H _).trans (hext_push _ _)
  have h1 : Strm H.n ((H.push ⟨[.int .i64 0, .int .i64 0, .slice none 0 0], 1, false, false⟩).push ⟨[s], 1, false, false⟩) (H.n + 1) s l :=
    ⟨by omega, by simp, by rw [AH.get_push, if_pos (by simp)], Sl.ext x1 hs, fun b hb => Sl.lt hs hb⟩
  have gE : ((H.push ⟨[.int .i64 0, .int .i64 0, .slice none 0 0], 1, false, false⟩).push ⟨[s], 1, false, false⟩).get H.n = some ⟨[.int .i64 0, .int .i64 0, .slice none 0 0], 1, false, false⟩ := by
    rw [AH.get_push, if_neg (by simp), AH.get_push, if_pos rfl]
  have hna : ((H.push ⟨[.int .i64 0, .int .i64 0, .slice none 0 0], 1, false, false⟩).push ⟨[s], 1, false, false⟩).n = H.n + 2 := by simp
  generalize ((H.push ⟨[.int .i64 0, .int .i64 0, .slice none 0 0], 1, false, false⟩).push ⟨[s], 1, false, false⟩) = Ha at x1 h1 gE hna
  refine next_ok H.n (H.n + 1) s l 3 (by omega) (by omega) Ha _ h1 ?_
  intro s1 H1 hn1 hg1 hs1
  have a0 := Int.emod_nonneg (l.headD 0) (by omega : (3 : Int) ≠ 0)
  have a1 := Int.emod_lt_of_pos (l.headD 0) (by omega : (0 : Int) < 3)
  have w1 := wrI (1 + l.headD 0 % 3) (by omega) (by omega)
  simp only [ofArgs, run_seq, run_block, run_ops, run_skip, run_exit, run_ret, thenQ_normal, thenQ_exit, thenQ_ret, blockQ_normal, blockQ_exit, blockQ_ret, retQ_ret, retQ_normal, ops_nil, ops_none, got_some, ops_wT, ops_wTn, ops_wF, ops_wFn, ops_wU, dops_wT, dops_wTn, dops_wF, dops_wFn, dops_wU, run_condT, run_condF, alt2_int, altB_bool, altI_int, altBB_bool, v_min, v_max, v_not, v_neg, optEv_none, optEv_some, isSome'_none, isSome'_some, pExt0, pExt1, pExt2, Bool.false_and, Bool.true_and, Bool.not_true, Bool.not_false, cond_true, cond_false, dops_nil, dops_none, xval_call, v_mov, v_bin, v_len, v_ext, v_idxA, v_ld, v_st, v_app, v_appN, v_cvs, v_bs1, pBs1, v_slc, v_conv, v_fld, v_fldA, v_new, v_box, v_mks, v_copy, v_isnil, v_nilck, v_pick, ev, evs_nil, evs_cons, fr_get_cons, fr_put_nil, fr_put_cons, fr_put_some, fr_put_none, fr_keep_nil, fr_keep_cons, fr_has_nil, fr_has_cons, Option.bind_some, Option.map_some, xbin, ibin, xresult_eq, xress_nil, xress_tmp, resV, ex_some, if_true, if_false, ite_true, ite_false, reduceIte, reduceCtorEq, Nat.reduceEqDiff, Nat.reduceLT, Nat.reduceLeDiff, Int.reduceLT, Int.reduceLE, Nat.zero_add, Nat.reduceAdd, Bool.false_eq_true, decide_eq_true_eq, decide_eq_false_iff_not, true_implies, false_implies, and_true, true_and, w1]
  refine next_ok H.n (H.n + 1) s1 l.tail 4 (by omega) (by omega) H1 _ hs1 ?_
  intro s2 H2 hn2 hg2 hs2
  have b0 := Int.emod_nonneg (l.tail.headD 0) (by omega : (4 : Int) ≠ 0)
  have b1 := Int.emod_lt_of_pos (l.tail.headD 0) (by omega : (0 : Int) < 4)
  have w2 := wrI (1 + l.tail.headD 0 % 4) (by omega) (by omega)
  have hT : ∃ T, T = 1 + l.headD 0 % 3 := ⟨_, rfl⟩
  have hS : ∃ S, S = 1 + l.tail.headD 0 % 4 := ⟨_, rfl⟩
  obtain ⟨T, hT⟩ := hT
  obtain ⟨S, hS⟩ := hS
  have eb : ∀ (fr : Fr) (H : AH), ev fr (.tmp 14) = some (.int .i64 T) → ev fr (.tmp 17) = some (.int .i64 S) → xval Try.prog (xc Try.prog tab) ⟨some 18, .build [.int .i64 0, .int .i64 0, .slice none 0 0] [(0, 1, .tmp 14), (1, 1, .tmp 17)], none⟩ fr H = some (.agg #[.int .i64 T, .int .i64 S, .slice none 0 0], H) := by
    intro fr H h1 h2
    rw [xval_op (some 18) _ fr H rfl, e_build]
    simp only [xfill, h1, h2]
    rfl
  rw [← hS] at w2
  have g3 : (H2.push ⟨[.int .i64 0, .int .i64 0, .slice none 0 0], 1, false, false⟩).get H2.n = some ⟨[.int .i64 0, .int .i64 0, .slice none 0 0], 1, false, false⟩ := by rw [AH.get_push, if_pos rfl]
  have e3 := st3 (a' := .int .i64 T) (b' := .int .i64 S) (c' := .slice none 0 0) g3 rfl rfl rfl
  have g4 : ((H2.push ⟨[.int .i64 0, .int .i64 0, .slice none 0 0], 1, false, false⟩).set H2.n ⟨[.int .i64 T, .int .i64 S, .slice none 0 0], 1, false, false⟩).get H2.n = some ⟨[.int .i64 T, .int .i64 S, .slice none 0 0], 1, false, false⟩ := by rw [AH.get_set, if_pos rfl]
  have e4 := ld3_0 g4
  have e5 := ld3_1 g4
  have m1 : T * S ≤ 3 * S := Int.mul_le_mul_of_nonneg_right (by omega) (by omega)
  have m2 : 1 * S ≤ T * S := Int.mul_le_mul_of_nonneg_right (by omega) (by omega)
  have w3 := wrI (T * S) (by omega) (by omega)
  simp only [ofArgs, run_seq, run_block, run_ops, run_skip, run_exit, run_ret, thenQ_normal, thenQ_exit, thenQ_ret, blockQ_normal, blockQ_exit, blockQ_ret, retQ_ret, retQ_normal, ops_nil, ops_none, got_some, ops_wT, ops_wTn, ops_wF, ops_wFn, ops_wU, dops_wT, dops_wTn, dops_wF, dops_wFn, dops_wU, run_condT, run_condF, alt2_int, altB_bool, altI_int, altBB_bool, v_min, v_max, v_not, v_neg, optEv_none, optEv_some, isSome'_none, isSome'_some, pExt0, pExt1, pExt2, Bool.false_and, Bool.true_and, Bool.not_true, Bool.not_false, cond_true, cond_false, dops_nil, dops_none, xval_call, v_mov, v_bin, v_len, v_ext, v_idxA, v_ld, v_st, v_app, v_appN, v_cvs, v_bs1, pBs1, v_slc, v_conv, v_fld, v_fldA, v_new, v_box, v_mks, v_copy, v_isnil, v_nilck, v_pick, ev, evs_nil, evs_cons, fr_get_cons, fr_put_nil, fr_put_cons, fr_put_some, fr_put_none, fr_keep_nil, fr_keep_cons, fr_has_nil, fr_has_cons, Option.bind_some, Option.map_some, xbin, ibin, xresult_eq, xress_nil, xress_tmp, resV, ex_some, if_true, if_false, ite_true, ite_false, reduceIte, reduceCtorEq, Nat.reduceEqDiff, Nat.reduceLT, Nat.reduceLeDiff, Int.reduceLT, Int.reduceLE, Nat.zero_add, Nat.reduceAdd, Bool.false_eq_true, decide_eq_true_eq, decide_eq_false_iff_not, true_implies, false_implies, and_true, true_and, ← hT, ← hS, w2, eb, e3, pFldA_ptr, e4, e5, w3]
  have hget : ∀ b, b < H2.n → b ≠ H.n + 1 → ((H2.push ⟨[.int .i64 0, .int .i64 0, .slice none 0 0], 1, false, false⟩).set H2.n ⟨[.int .i64 T, .int .i64 S, .slice none 0 0], 1, false, false⟩).get b = Ha.get b := by
    intro b hb hbb
    rw [AH.get_set, if_neg (by omega), AH.get_push, if_neg (by omega), hg2 b hbb, hg1 b hbb]
  have hs4 : Strm H.n ((H2.push ⟨[.int .i64 0, .int .i64 0, .slice none 0 0], 1, false, false⟩).set H2.n ⟨[.int .i64 T, .int .i64 S, .slice none 0 0], 1, false, false⟩) (H.n + 1) s2 l.tail.tail := by
    refine hs2.mono (by show _ ≤ H2.n + 1; omega) fun b hb => ?_
    rw [AH.get_set, if_neg (by omega), AH.get_push, if_neg (by omega)]
  have gE4 : ((H2.push ⟨[.int .i64 0, .int .i64 0, .slice none 0 0], 1, false, false⟩).set H2.n ⟨[.int .i64 T, .int .i64 S, .slice none 0 0], 1, false, false⟩).get H.n = some ⟨[.int .i64 0, .int .i64 0, .slice none 0 0], 1, false, false⟩ := by
    rw [hget H.n (by omega) (by omega)]; exact gE
  refine disk_l1 H.n H2.n (H.n + 1) H.n T S (by omega) (by omega) (by omega) (by omega) (by omega) (by omega) (H2.n + 1) (by omega) (by omega) (by omega) (T * S) (by omega) _ (T * S).toNat 0 _ s2 l.tail.tail (.slice none 0 0) [] 0 _ (by omega) (by omega) rfl rfl hs4 g4 gE4 (OwnS.nil _ _ _) (fun l hl => by cases hl) (by show _ ≤ H2.n + 1; omega) ?_
  intro H5 vd L hL hl5 o5 gD5 gE5 k5
  have e6 := ld3 gD5
  obtain ⟨q1, q2, _⟩ := o5.secs.sl
  have e7 := st3 (a' := .int .i64 T) (b' := .int .i64 S) (c' := vd) gE5 rfl rfl q1
  have g6 : (H5.set H.n ⟨[.int .i64 T, .int .i64 S, vd], 1, false, false⟩).get H.n = some ⟨[.int .i64 T, .int .i64 S, vd], 1, false, false⟩ := by rw [AH.get_set, if_pos rfl]
  have hcell : ∀ fr : Fr, fr.get 2 = some (.pointer (some ⟨H.n, 0, none⟩)) → xress fr (H5.set H.n ⟨[.int .i64 T, .int .i64 S, vd], 1, false, false⟩) [.cell 2 (some 3)] = some [.agg #[.int .i64 T, .int .i64 S, vd]] := by
    intro fr hfr
    rw [xress_cell fr _ 2 _ 0 (some 3) _ (.agg #[.int .i64 T, .int .i64 S, vd]) [] hfr g6 rfl, xress_nil]; rfl
  simp only [ofArgs, run_seq, run_block, run_ops, run_skip, run_exit, run_ret, thenQ_normal, thenQ_exit, thenQ_ret, blockQ_normal, blockQ_exit, blockQ_ret, retQ_ret, retQ_normal, ops_nil, ops_none, got_some, ops_wT, ops_wTn, ops_wF, ops_wFn, ops_wU, dops_wT, dops_wTn, dops_wF, dops_wFn, dops_wU, run_condT, run_condF, alt2_int, altB_bool, altI_int, altBB_bool, v_min, v_max, v_not, v_neg, optEv_none, optEv_some, isSome'_none, isSome'_some, pExt0, pExt1, pExt2, Bool.false_and, Bool.true_and, Bool.not_true, Bool.not_false, cond_true, cond_false, dops_nil, dops_none, xval_call, v_mov, v_bin, v_len, v_ext, v_idxA, v_ld, v_st, v_app, v_appN, v_cvs, v_bs1, pBs1, v_slc, v_conv, v_fld, v_fldA, v_new, v_box, v_mks, v_copy, v_isnil, v_nilck, v_pick, ev, evs_nil, evs_cons, fr_get_cons, fr_put_nil, fr_put_cons, fr_put_some, fr_put_none, fr_keep_nil, fr_keep_cons, fr_has_nil, fr_has_cons, Option.bind_some, Option.map_some, xbin, ibin, xresult_eq, xress_nil, xress_tmp, resV, ex_some, if_true, if_false, ite_true, ite_false, reduceIte, reduceCtorEq, Nat.reduceEqDiff, Nat.reduceLT, Nat.reduceLeDiff, Int.reduceLT, Int.reduceLE, Nat.zero_add, Nat.reduceAdd, Bool.false_eq_true, decide_eq_true_eq, decide_eq_false_iff_not, true_implies, false_implies, and_true, true_and, e6, e7, hcell]
  have hk5 := k5.1
  refine hq T S vd L _ (by omega) (by omega) (by omega) (by omega) (by omega) hl5 ?_ ?_
  · have := o5.mono (H' := H5.set H.n ⟨[.int .i64 T, .int .i64 S, vd], 1, false, false⟩) (fun b h => h) (Nat.le_refl _) fun b hb hf => by
      rw [AH.get_set, if_neg (fun e => hf (by omega))]
    exact this.secs
  · refine Keep.trans (n0 := H.n) (B := Ha) x1 (Keep.trans (n0 := H.n) (B := ((H2.push ⟨[.int .i64 0, .int .i64 0, .slice none 0 0], 1, false, false⟩).set H2.n ⟨[.int .i64 T, .int .i64 S, .slice none 0 0], 1, false, false⟩)) ⟨by show _ ≤ H2.n + 1; omega, fun b hb => hget b (by omega) (by omega)⟩ (Keep.trans (B := H5) k5 ⟨Nat.le_refl _, fun b hb => ?_⟩))
    rw [AH.get_set, if_neg (by omega)]
end Go.Proofs.Ytkhjmmidaihbhaa.D
