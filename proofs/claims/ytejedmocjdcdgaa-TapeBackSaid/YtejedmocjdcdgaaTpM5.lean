/- What runs of the program's functions compute, on a heap of the run's own, and that the machine does what such a run says: the conditions stand in each theorem. -/
import Derived.Test.YtejedmocjdcdgaaTpM4
set_option linter.unusedSimpArgs false
set_option linter.unusedVariables false
namespace Go.Proofs.Ytejedmocjdcdgaa.D
open Go Go.Det

theorem hdU_b8 (l : List Int) (h : B8 l) (hl : l.length ≤ 100) (hx : xorFold 0 l < 256) : B8 (hdU l) := by
  intro b hb
  unfold hdU at hb
  simp only [List.mem_append, List.mem_cons, List.not_mem_nil, or_false] at hb
  rcases hb with ((rfl | rfl) | h1) | rfl
  · omega
  · omega
  · exact h b h1
  · omega
theorem hdU_len (l : List Int) : (hdU l).length = l.length + 3 := by simp [hdU]
set_option maxHeartbeats 8000000 in
theorem tw_l3 (n0 : Nat) (v : Value) (rest : List TB) : ∀ (pre : List TB) (acc : List Int) (vo : Value) (H : AH) (i N : Int) (Q : XExit → Fr → AH → Prop), TBs H v (pre ++ rest) → (∀ b, inB v b → b < n0) → (∀ s ∈ pre ++ rest, ∀ b, inB s.w b → b < n0) → (∀ s ∈ rest, TbOk s) → OwnI n0 H vo acc → n0 ≤ H.n → acc.length + 2000 * rest.length ≤ 50000 → pre.length + rest.length ≤ 20 → i = (pre.length : Int) → N = ((pre ++ rest).length : Int) →
    (∀ H' vo', OwnI n0 H' vo' (acc ++ trkT rest) → Keep n0 H H' → Q (.exit 0) [(5, vo'), (17, v), (18, .int .i64 N), (19, .int .i64 N), (20, .bool false)] H') →
    Run Try.prog tab (.loop xtape_Write_l3) [(5, vo), (17, v), (18, .int .i64 N), (19, .int .i64 i)] H Q := by
  induction rest with
  | nil =>
    intro pre acc vo H i N Q hv hvb hwb hok ho hn hl hl2 hi hN hq
    rw [run_loop]
    generalize hL : XCode.loop xtape_Write_l3 = L
    have hiN : i = N := by simp at hN; omega
    subst hiN
    have hf : ¬ i < i := by omega
    simp only [xtape_Write_l3, ofArgs, run_seq, run_block, run_ops, run_skip, run_exit, run_ret, thenQ_normal, thenQ_exit, thenQ_ret, blockQ_normal, blockQ_exit, blockQ_ret, retQ_ret, retQ_normal, ops_nil, ops_none, got_some, ops_wT, ops_wTn, ops_wF, ops_wFn, ops_wU, dops_wT, dops_wTn, dops_wF, dops_wFn, dops_wU, run_condT, run_condF, alt2_int, altB_bool, altI_int, altBB_bool, v_min, v_max, v_not, v_neg, optEv_none, optEv_some, isSome'_none, isSome'_some, pExt0, pExt1, pExt2, Bool.false_and, Bool.true_and, Bool.not_true, Bool.not_false, cond_true, cond_false, dops_nil, dops_none, xval_call, v_mov, v_bin, v_len, v_ext, v_idxA, v_ld, v_st, v_app, v_appN, v_cvs, v_bs1, pBs1, v_slc, v_conv, v_fld, v_fldA, v_new, v_box, v_mks, v_copy, v_isnil, v_nilck, v_pick, ev, evs_nil, evs_cons, fr_get_cons, fr_put_nil, fr_put_cons, fr_put_some, fr_put_none, fr_keep_nil, fr_keep_cons, fr_has_nil, fr_has_cons, Option.bind_some, Option.map_some, xbin, ibin, xresult_eq, xress_nil, xress_tmp, resV, ex_some, if_true, if_false, ite_true, ite_false, reduceIte, reduceCtorEq, Nat.reduceEqDiff, Nat.reduceLT, Nat.reduceLeDiff, Int.reduceLT, Int.reduceLE, Nat.zero_add, Nat.reduceAdd, Bool.false_eq_true, decide_eq_true_eq, decide_eq_false_iff_not, true_implies, false_implies, and_true, true_and, hf, decide_false]
    exact hq H vo (by simpa [trkT] using ho) (.refl _ _)
  | cons s rest ih =>
    intro pre acc vo H i N Q hv hvb hwb hok ho hn hl hl2 hi hN hq
    rw [run_loop]
    generalize hL : XCode.loop xtape_Write_l3 = L
    simp only [List.length_cons] at hl hl2
    have hlt : i < N := by simp at hN; omega
    have e1 := tbs_idx hv i hi
    have e2 := tbs_ld hv
    have hb := hv.2 s (by simp)
    have hswb : ∀ b, inB s.w b → b < n0 := hwb s (by simp)
    obtain ⟨o1, o2⟩ := slice_one hb
    have st := bT_st H s.u s.w o1
    have hx := bT_ext H s.u s.w
    have g1 := bT_get H s.u s.w
    have n1 := bT_n H s.u s.w
    obtain ⟨s1, s2, s3, s4⟩ := hok s (by simp)
    have hu : 4 ≤ s.u ∧ s.u ≤ 100 := ⟨s1, s2⟩
    have ho1 : OwnI n0 (bT H s.u s.w) vo acc := Own.ext hx ho
    have hvoE : ¬ inB vo H.n := fun h => by have := ho.1.lt h; omega
    have hb1 : Byts (bT H s.u s.w) s.w s.bs := Sl.ext hx hb
    have w3 := wrI (i + 1) (by omega) (by omega)
    have w16 := wrI (16 * s.u) (by omega) (by omega)
    generalize hE : H.n = E at *
    simp only [xtape_Write_l3, ofArgs, run_seq, run_block, run_ops, run_skip, run_exit, run_ret, thenQ_normal, thenQ_exit, thenQ_ret, blockQ_normal, blockQ_exit, blockQ_ret, retQ_ret, retQ_normal, ops_nil, ops_none, got_some, ops_wT, ops_wTn, ops_wF, ops_wFn, ops_wU, dops_wT, dops_wTn, dops_wF, dops_wFn, dops_wU, run_condT, run_condF, alt2_int, altB_bool, altI_int, altBB_bool, v_min, v_max, v_not, v_neg, optEv_none, optEv_some, isSome'_none, isSome'_some, pExt0, pExt1, pExt2, Bool.false_and, Bool.true_and, Bool.not_true, Bool.not_false, cond_true, cond_false, dops_nil, dops_none, xval_call, v_mov, v_bin, v_len, v_ext, v_idxA, v_ld, v_st, v_app, v_appN, v_cvs, v_bs1, pBs1, v_slc, v_conv, v_fld, v_fldA, v_new, v_box, v_mks, v_copy, v_isnil, v_nilck, v_pick, ev, evs_nil, evs_cons, fr_get_cons, fr_put_nil, fr_put_cons, fr_put_some, fr_put_none, fr_keep_nil, fr_keep_cons, fr_has_nil, fr_has_cons, Option.bind_some, Option.map_some, xbin, ibin, xresult_eq, xress_nil, xress_tmp, resV, ex_some, if_true, if_false, ite_true, ite_false, reduceIte, reduceCtorEq, Nat.reduceEqDiff, Nat.reduceLT, Nat.reduceLeDiff, Int.reduceLT, Int.reduceLE, Nat.zero_add, Nat.reduceAdd, Bool.false_eq_true, decide_eq_true_eq, decide_eq_false_iff_not, true_implies, false_implies, and_true, true_and, hlt, decide_true, e1, e2, hE, st]
    generalize bT H s.u s.w = H1 at *
    refine tw_l0 n0 E s.u hu s.w v N i 16 acc vo H1 0 _ g1 (by omega) hvoE ho1 (by omega) (by omega) (by omega) (by omega) ?_
    intro H2 v2 o2' n2 hvE2 get2 new2
    have gr2 : Grow n0 vo H1 v2 H2 := ⟨n2, get2, new2⟩
    have g2 := (gr2.get E (by omega) hvoE).trans g1
    have l0 := bx2_0 g2
    simp only [ofArgs, run_seq, run_block, run_ops, run_skip, run_exit, run_ret, thenQ_normal, thenQ_exit, thenQ_ret, blockQ_normal, blockQ_exit, blockQ_ret, retQ_ret, retQ_normal, ops_nil, ops_none, got_some, ops_wT, ops_wTn, ops_wF, ops_wFn, ops_wU, dops_wT, dops_wTn, dops_wF, dops_wFn, dops_wU, run_condT, run_condF, alt2_int, altB_bool, altI_int, altBB_bool, v_min, v_max, v_not, v_neg, optEv_none, optEv_some, isSome'_none, isSome'_some, pExt0, pExt1, pExt2, Bool.false_and, Bool.true_and, Bool.not_true, Bool.not_false, cond_true, cond_false, dops_nil, dops_none, xval_call, v_mov, v_bin, v_len, v_ext, v_idxA, v_ld, v_st, v_app, v_appN, v_cvs, v_bs1, pBs1, v_slc, v_conv, v_fld, v_fldA, v_new, v_box, v_mks, v_copy, v_isnil, v_nilck, v_pick, ev, evs_nil, evs_cons, fr_get_cons, fr_put_nil, fr_put_cons, fr_put_some, fr_put_none, fr_keep_nil, fr_keep_cons, fr_has_nil, fr_has_cons, Option.bind_some, Option.map_some, xbin, ibin, xresult_eq, xress_nil, xress_tmp, resV, ex_some, if_true, if_false, ite_true, ite_false, reduceIte, reduceCtorEq, Nat.reduceEqDiff, Nat.reduceLT, Nat.reduceLeDiff, Int.reduceLT, Int.reduceLE, Nat.zero_add, Nat.reduceAdd, Bool.false_eq_true, decide_eq_true_eq, decide_eq_false_iff_not, true_implies, false_implies, and_true, true_and, fldA0, l0, w16]
    have hpl : (pul s.u (List.replicate 16 8)).length = 16 := by simp [pul]
    refine app_one o2' (by omega) (by rw [List.length_append, hpl]; omega) fun v3 H3 o3 st3 => ?_
    have gr3 : Grow n0 v2 H2 v3 H3 := .stp st3
    have gr := gr2.trans gr3
    have n3 := gr.n
    have g3 := (gr.get E (by omega) hvoE).trans g1
    have notv : ∀ d, d < n0 → ¬ inB vo d := fun d hd ⟨o, l, cc, e⟩ => by have := (ho1.2 d o l cc e).1; omega
    have hb3 : Byts H3 s.w s.bs := Sl.same hb1 gr.n fun b hbb => gr.get b (Sl.lt hb1 hbb) (notv b (hswb b hbb))
    have l1 := bx2_1 g3
    have elen := byts_len' hb3
    have m8 : min (Int.toNat 8) IntKind.i64.bits = 8 := rfl
    have n8 : ¬ (8 : Int) < 0 := by decide
    have sh : ((s.bs.length : Nat) : Int).fdiv (2 ^ 8) = ((s.bs.length / 256 : Nat) : Int) := by rw [shrN, Nat.shiftRight_eq_div_pow]
    have cv1 := wrU8' ((s.bs.length / 256 : Nat) : Int) (by omega) (by omega)
    have cv2 : IntKind.u8.wrap ((s.bs.length : Nat) : Int) = ((s.bs.length % 256 : Nat) : Int) := by rw [wrU8m]; omega
    have hxl := xorFold_lt s.bs s4 0 (by omega)
    have cv3 := wrU8' ((xorFold 0 s.bs : Nat) : Int) (by omega) (by omega)
    have x4 := hext_push H3 ⟨[.int .u8 ((s.bs.length / 256 : Nat) : Int), .int .u8 ((s.bs.length % 256 : Nat) : Int)], 1, false, false⟩
    have n4 : (H3.push ⟨[.int .u8 ((s.bs.length / 256 : Nat) : Int), .int .u8 ((s.bs.length % 256 : Nat) : Int)], 1, false, false⟩).n = H3.n + 1 := rfl
    have o4 : OwnB H3.n (H3.push ⟨[.int .u8 ((s.bs.length / 256 : Nat) : Int), .int .u8 ((s.bs.length % 256 : Nat) : Int)], 1, false, false⟩) (.slice (some ⟨H3.n, 0, none⟩) 2 2) [((s.bs.length / 256 : Nat) : Int), ((s.bs.length % 256 : Nat) : Int)] := Own.pushed H3 _ 1 2 false rfl
    have g4 := (x4.2 E (by omega)).trans g3
    have l1' := bx2_1 g4
    have hb4 := Sl.ext x4 hb3
    have vq := hb.veq
    refine run_dopsS _ _ _ _ _ ?_
    simp only [ofArgs, run_seq, run_block, run_ops, run_skip, run_exit, run_ret, thenQ_normal, thenQ_exit, thenQ_ret, blockQ_normal, blockQ_exit, blockQ_ret, retQ_ret, retQ_normal, ops_nil, ops_none, got_some, ops_wT, ops_wTn, ops_wF, ops_wFn, ops_wU, dops_wT, dops_wTn, dops_wF, dops_wFn, dops_wU, run_condT, run_condF, alt2_int, altB_bool, altI_int, altBB_bool, v_min, v_max, v_not, v_neg, optEv_none, optEv_some, isSome'_none, isSome'_some, pExt0, pExt1, pExt2, Bool.false_and, Bool.true_and, Bool.not_true, Bool.not_false, cond_true, cond_false, dops_nil, dops_none, xval_call, v_mov, v_bin, v_len, v_ext, v_idxA, v_ld, v_st, v_app, v_appN, v_cvs, v_bs1, pBs1, v_slc, v_conv, v_fld, v_fldA, v_new, v_box, v_mks, v_copy, v_isnil, v_nilck, v_pick, ev, evs_nil, evs_cons, fr_get_cons, fr_put_nil, fr_put_cons, fr_put_some, fr_put_none, fr_keep_nil, fr_keep_cons, fr_has_nil, fr_has_cons, Option.bind_some, Option.map_some, xbin, ibin, xresult_eq, xress_nil, xress_tmp, resV, ex_some, if_true, if_false, ite_true, ite_false, reduceIte, reduceCtorEq, Nat.reduceEqDiff, Nat.reduceLT, Nat.reduceLeDiff, Int.reduceLT, Int.reduceLE, Nat.zero_add, Nat.reduceAdd, Bool.false_eq_true, decide_eq_true_eq, decide_eq_false_iff_not, true_implies, false_implies, and_true, true_and, dr_nil, dr_cons, hs0, hs1, hs2, hs3, addC_nil, addC_cons, stabAll_nil, stabAll_cons, stab1_nil, stab1_cons, hat_cons, xval_wT, xval_wTn, xval_wF, xval_wFn, veq_int, veq_bool, veq_ptr, veq_sl, fldA1, l1, elen, m8, n8, sh, pConv, cv1, cv2, v_bs2v, altNN2_int, l1']
    generalize H3.push ⟨[.int .u8 ((s.bs.length / 256 : Nat) : Int), .int .u8 ((s.bs.length % 256 : Nat) : Int)], 1, false, false⟩ = H4 at *
    refine appB o4 (by omega) hb4 (by simp; omega) ?_
    intro v5 H5 o5 st5
    have n5 := st5.n
    have keep5 : ∀ d, d < H3.n → H5.get d = H4.get d := fun d hd => st5.get d (by omega) (fun ⟨o, l, c, e⟩ => by
      simp only [Value.slice.injEq, Option.some.injEq, Addr.mk.injEq] at e
      omega)
    have g5 := (keep5 E (by omega)).trans g4
    have l15 := bx2_1 g5
    have hb5 : Byts H5 s.w s.bs := Sl.same hb4 (by omega) fun b hbb => keep5 b (Sl.lt hb3 hbb)
    have xx := xor_xc s.bs s.w H5 hb5 s4 (by omega)
    have x6 := hext_push H5 ⟨[.int .u8 ((xorFold 0 s.bs : Nat) : Int)], 1, false, false⟩
    have n6 : (H5.push ⟨[.int .u8 ((xorFold 0 s.bs : Nat) : Int)], 1, false, false⟩).n = H5.n + 1 := rfl
    have b6 : Byts (H5.push ⟨[.int .u8 ((xorFold 0 s.bs : Nat) : Int)], 1, false, false⟩) (.slice (some ⟨H5.n, 0, none⟩) 1 1) [((xorFold 0 s.bs : Nat) : Int)] := Sl.pushed H5 _ 1 1 false false rfl
    have o6 := Own.ext x6 o5
    simp only [ofArgs, run_seq, run_block, run_ops, run_skip, run_exit, run_ret, thenQ_normal, thenQ_exit, thenQ_ret, blockQ_normal, blockQ_exit, blockQ_ret, retQ_ret, retQ_normal, ops_nil, ops_none, got_some, ops_wT, ops_wTn, ops_wF, ops_wFn, ops_wU, dops_wT, dops_wTn, dops_wF, dops_wFn, dops_wU, run_condT, run_condF, alt2_int, altB_bool, altI_int, altBB_bool, v_min, v_max, v_not, v_neg, optEv_none, optEv_some, isSome'_none, isSome'_some, pExt0, pExt1, pExt2, Bool.false_and, Bool.true_and, Bool.not_true, Bool.not_false, cond_true, cond_false, dops_nil, dops_none, xval_call, v_mov, v_bin, v_len, v_ext, v_idxA, v_ld, v_st, v_app, v_appN, v_cvs, v_bs1, pBs1, v_slc, v_conv, v_fld, v_fldA, v_new, v_box, v_mks, v_copy, v_isnil, v_nilck, v_pick, ev, evs_nil, evs_cons, fr_get_cons, fr_put_nil, fr_put_cons, fr_put_some, fr_put_none, fr_keep_nil, fr_keep_cons, fr_has_nil, fr_has_cons, Option.bind_some, Option.map_some, xbin, ibin, xresult_eq, xress_nil, xress_tmp, resV, ex_some, if_true, if_false, ite_true, ite_false, reduceIte, reduceCtorEq, Nat.reduceEqDiff, Nat.reduceLT, Nat.reduceLeDiff, Int.reduceLT, Int.reduceLE, Nat.zero_add, Nat.reduceAdd, Bool.false_eq_true, decide_eq_true_eq, decide_eq_false_iff_not, true_implies, false_implies, and_true, true_and, dr_nil, dr_cons, hs0, hs1, hs2, hs3, addC_nil, addC_cons, stabAll_nil, stabAll_cons, stab1_nil, stab1_cons, hat_cons, xval_wT, xval_wTn, xval_wF, xval_wFn, veq_int, veq_bool, veq_ptr, veq_sl, fldA1, l15, xx, pConv, cv3]
    generalize H5.push ⟨[.int .u8 ((xorFold 0 s.bs : Nat) : Int)], 1, false, false⟩ = H6 at *
    refine appB o6 (by omega) b6 (by simp; omega) ?_
    intro v7 H7 o7 st7
    have n7 := st7.n
    have o7' : OwnB H3.n H7 v7 (hdU s.bs) := o7
    have el7 := byts_len' o7'.1
    rw [hdU_len] at el7
    have keep7 : ∀ d, d < H3.n → H7.get d = H3.get d := fun d hd => (st7.get d (by omega) (fun ⟨o, l, c, e⟩ => by have := (o6.2 d o l c e).1; omega)).trans ((x6.2 d (by omega)).trans ((keep5 d hd).trans (x4.2 d hd)))
    have g7 := (keep7 E (by omega)).trans g3
    have o8 : OwnI n0 H7 v3 (acc ++ pul s.u (List.replicate 16 8) ++ [16 * s.u]) := Own.same o3 (by omega) fun b hbb => keep7 b (Sl.lt o3.1 hbb)
    have hvE3 : ¬ inB v3 E := gr.out (by omega) hvoE
    have h73 : ∀ b, inB v7 b → ¬ inB v3 b := fun b h1 h2 => by
      have := Sl.lt o3.1 h2
      obtain ⟨o, l, c, e⟩ := h1
      have := (o7'.2 b o l c e).1
      omega
    simp only [ofArgs, run_seq, run_block, run_ops, run_skip, run_exit, run_ret, thenQ_normal, thenQ_exit, thenQ_ret, blockQ_normal, blockQ_exit, blockQ_ret, retQ_ret, retQ_normal, ops_nil, ops_none, got_some, ops_wT, ops_wTn, ops_wF, ops_wFn, ops_wU, dops_wT, dops_wTn, dops_wF, dops_wFn, dops_wU, run_condT, run_condF, alt2_int, altB_bool, altI_int, altBB_bool, v_min, v_max, v_not, v_neg, optEv_none, optEv_some, isSome'_none, isSome'_some, pExt0, pExt1, pExt2, Bool.false_and, Bool.true_and, Bool.not_true, Bool.not_false, cond_true, cond_false, dops_nil, dops_none, xval_call, v_mov, v_bin, v_len, v_ext, v_idxA, v_ld, v_st, v_app, v_appN, v_cvs, v_bs1, pBs1, v_slc, v_conv, v_fld, v_fldA, v_new, v_box, v_mks, v_copy, v_isnil, v_nilck, v_pick, ev, evs_nil, evs_cons, fr_get_cons, fr_put_nil, fr_put_cons, fr_put_some, fr_put_none, fr_keep_nil, fr_keep_cons, fr_has_nil, fr_has_cons, Option.bind_some, Option.map_some, xbin, ibin, xresult_eq, xress_nil, xress_tmp, resV, ex_some, if_true, if_false, ite_true, ite_false, reduceIte, reduceCtorEq, Nat.reduceEqDiff, Nat.reduceLT, Nat.reduceLeDiff, Int.reduceLT, Int.reduceLE, Nat.zero_add, Nat.reduceAdd, Bool.false_eq_true, decide_eq_true_eq, decide_eq_false_iff_not, true_implies, false_implies, and_true, true_and, dr_nil, dr_cons, hs0, hs1, hs2, hs3, addC_nil, addC_cons, stabAll_nil, stabAll_cons, stab1_nil, stab1_cons, hat_cons, xval_wT, xval_wTn, xval_wF, xval_wFn, veq_int, veq_bool, veq_ptr, veq_sl, el7, l1, l1', l15, vq]
    have h8 := hdU_b8 s.bs s4 s3 hxl
    refine tw_l2 n0 E s.u hu s.w v v7 N i (hdU s.bs) [] _ v3 H7 0 _ _ g7 (by omega) hvE3 o8 (by omega) o7'.1 h73 h8 (by rw [List.length_append, List.length_append, hpl, hdU_len]; simp; omega) (by rw [hdU_len]; simp; omega) (by simp) (by rw [List.nil_append, hdU_len]) ?_
    intro H8 v8 o9 gr8
    simp only [ofArgs, run_seq, run_block, run_ops, run_skip, run_exit, run_ret, thenQ_normal, thenQ_exit, thenQ_ret, blockQ_normal, blockQ_exit, blockQ_ret, retQ_ret, retQ_normal, ops_nil, ops_none, got_some, ops_wT, ops_wTn, ops_wF, ops_wFn, ops_wU, dops_wT, dops_wTn, dops_wF, dops_wFn, dops_wU, run_condT, run_condF, alt2_int, altB_bool, altI_int, altBB_bool, v_min, v_max, v_not, v_neg, optEv_none, optEv_some, isSome'_none, isSome'_some, pExt0, pExt1, pExt2, Bool.false_and, Bool.true_and, Bool.not_true, Bool.not_false, cond_true, cond_false, dops_nil, dops_none, xval_call, v_mov, v_bin, v_len, v_ext, v_idxA, v_ld, v_st, v_app, v_appN, v_cvs, v_bs1, pBs1, v_slc, v_conv, v_fld, v_fldA, v_new, v_box, v_mks, v_copy, v_isnil, v_nilck, v_pick, ev, evs_nil, evs_cons, fr_get_cons, fr_put_nil, fr_put_cons, fr_put_some, fr_put_none, fr_keep_nil, fr_keep_cons, fr_has_nil, fr_has_cons, Option.bind_some, Option.map_some, xbin, ibin, xresult_eq, xress_nil, xress_tmp, resV, ex_some, if_true, if_false, ite_true, ite_false, reduceIte, reduceCtorEq, Nat.reduceEqDiff, Nat.reduceLT, Nat.reduceLeDiff, Int.reduceLT, Int.reduceLE, Nat.zero_add, Nat.reduceAdd, Bool.false_eq_true, decide_eq_true_eq, decide_eq_false_iff_not, true_implies, false_implies, and_true, true_and, w3]
    subst hL
    have n8' := gr8.n
    have kall : Keep n0 H H8 := by
      refine ⟨by omega, fun d hd => ?_⟩
      have h3 : ¬ inB v3 d := fun h => by
        obtain ⟨o, l, c, e⟩ := h
        have := (o3.2 d o l c e).1
        omega
      exact (gr8.get d (by omega) h3).trans ((keep7 d (by omega)).trans ((gr.get d (by omega) (notv d hd)).trans (hx.2 d (by omega))))
    have em : acc ++ pul s.u (List.replicate 16 8) ++ [16 * s.u] ++ pul s.u (bytsU (hdU s.bs)) = acc ++ pul s.u (blkU s.bs) := by simp [pul, blkU]
    rw [em] at o9
    have hbl : (pul s.u (blkU s.bs)).length = 65 + 16 * s.bs.length := by simp [pul, blkU_len]
    refine ih (pre ++ [s]) _ v8 H8 (i + 1) N Q ⟨by rw [← List.append_cons]; exact Sl.keep kall hv.1 hvb, by rw [← List.append_cons]; exact fun y hy => Sl.keep kall (hv.2 y hy) (hwb y hy)⟩ hvb (by rw [← List.append_cons]; exact hwb) (fun y hy => hok y (by simp [hy])) o9 (by omega) (by rw [List.length_append, hbl]; omega) (by simp; omega) (by simp; omega) (by simpa using hN) ?_
    intro H9 v9 o10 k9
    refine hq H9 v9 ?_ (kall.trans k9)
    have et : acc ++ pul s.u (blkU s.bs) ++ trkT rest = acc ++ trkT (s :: rest) := by simp [trkT]
    rw [et] at o10
    exact o10
theorem twrite_ok (v : Value) (l : List TB) (H : AH) (Q : Value → AH → Prop) (hv : TBs H v l) (hok : ∀ s ∈ l, TbOk s) (hl : l.length ≤ 8) (hq : ∀ vt H', OwnI H.n H' vt (trkT l) → HExt H H' → Q (.tuple [vt, .int .i64 0].toArray) H') : Got (xc Try.prog tab 23 [v] H) Q := by
  refine got_call (res := [.tmp 2, .tmp 3]) rfl ?_
  generalize hT : ((.seq (.ops [⟨some 5, .mov (.const (.slice none 0 0)), none⟩] [0, 5]) (.seq (.seq (.ops [⟨some 17, .mov (.tmp 0), none⟩, ⟨some 18, .len (.tmp 17), none⟩, ⟨some 19, .mov (.const (.int .i64 0)), none⟩] [5, 17, 18, 19]) (.block 0 (.loop xtape_Write_l3))) (.seq (.ops [⟨some 84, .mov (.tmp 5), none⟩, ⟨some 2, .mov (.tmp 84), none⟩, ⟨some 3, .mov (.const (.int .i64 0)), none⟩] [2, 3]) .ret))) : XCode) = T
  simp only [ofArgs, run_seq, run_block, run_ops, run_skip, run_exit, run_ret, thenQ_normal, thenQ_exit, thenQ_ret, blockQ_normal, blockQ_exit, blockQ_ret, retQ_ret, retQ_normal, ops_nil, ops_none, got_some, ops_wT, ops_wTn, ops_wF, ops_wFn, ops_wU, dops_wT, dops_wTn, dops_wF, dops_wFn, dops_wU, run_condT, run_condF, alt2_int, altB_bool, altI_int, altBB_bool, v_min, v_max, v_not, v_neg, optEv_none, optEv_some, isSome'_none, isSome'_some, pExt0, pExt1, pExt2, Bool.false_and, Bool.true_and, Bool.not_true, Bool.not_false, cond_true, cond_false, dops_nil, dops_none, xval_call, v_mov, v_bin, v_len, v_ext, v_idxA, v_ld, v_st, v_app, v_appN, v_cvs, v_bs1, pBs1, v_slc, v_conv, v_fld, v_fldA, v_new, v_box, v_mks, v_copy, v_isnil, v_nilck, v_pick, ev, evs_nil, evs_cons, fr_get_cons, fr_put_nil, fr_put_cons, fr_put_some, fr_put_none, fr_keep_nil, fr_keep_cons, fr_has_nil, fr_has_cons, Option.bind_some, Option.map_some, xbin, ibin, xresult_eq, xress_nil, xress_tmp, resV, ex_some, if_true, if_false, ite_true, ite_false, reduceIte, reduceCtorEq, Nat.reduceEqDiff, Nat.reduceLT, Nat.reduceLeDiff, Int.reduceLT, Int.reduceLE, Nat.zero_add, Nat.reduceAdd, Bool.false_eq_true, decide_eq_true_eq, decide_eq_false_iff_not, true_implies, false_implies, and_true, true_and]
  refine tcheck_ok v l H _ hv hok hl ?_
  intro H1 x1
  have hv1 := hv.ext x1
  have e0 : pLen v H1 = some (.int .i64 (l.length : Int), H1) := pLen_ok hv1.1
  have z0 : ((0 : Int) != 0) = false := rfl
  subst hT
  generalize hT : ((.seq (.ops [⟨some 84, .mov (.tmp 5), none⟩, ⟨some 2, .mov (.tmp 84), none⟩, ⟨some 3, .mov (.const (.int .i64 0)), none⟩] [2, 3]) .ret) : XCode) = T
  simp only [ofArgs, run_seq, run_block, run_ops, run_skip, run_exit, run_ret, thenQ_normal, thenQ_exit, thenQ_ret, blockQ_normal, blockQ_exit, blockQ_ret, retQ_ret, retQ_normal, ops_nil, ops_none, got_some, ops_wT, ops_wTn, ops_wF, ops_wFn, ops_wU, dops_wT, dops_wTn, dops_wF, dops_wFn, dops_wU, run_condT, run_condF, alt2_int, altB_bool, altI_int, altBB_bool, v_min, v_max, v_not, v_neg, optEv_none, optEv_some, isSome'_none, isSome'_some, pExt0, pExt1, pExt2, Bool.false_and, Bool.true_and, Bool.not_true, Bool.not_false, cond_true, cond_false, dops_nil, dops_none, xval_call, v_mov, v_bin, v_len, v_ext, v_idxA, v_ld, v_st, v_app, v_appN, v_cvs, v_bs1, pBs1, v_slc, v_conv, v_fld, v_fldA, v_new, v_box, v_mks, v_copy, v_isnil, v_nilck, v_pick, ev, evs_nil, evs_cons, fr_get_cons, fr_put_nil, fr_put_cons, fr_put_some, fr_put_none, fr_keep_nil, fr_keep_cons, fr_has_nil, fr_has_cons, Option.bind_some, Option.map_some, xbin, ibin, xresult_eq, xress_nil, xress_tmp, resV, ex_some, if_true, if_false, ite_true, ite_false, reduceIte, reduceCtorEq, Nat.reduceEqDiff, Nat.reduceLT, Nat.reduceLeDiff, Int.reduceLT, Int.reduceLE, Nat.zero_add, Nat.reduceAdd, Bool.false_eq_true, decide_eq_true_eq, decide_eq_false_iff_not, true_implies, false_implies, and_true, true_and, z0, e0]
  refine tw_l3 H.n v l [] [] (.slice none 0 0) H1 0 _ _ (by simpa using hv1) (fun b hb => Sl.lt hv.1 hb) (fun s hs b hb => Sl.lt (hv.2 s (by simpa using hs)) hb) hok (OwnI.nil _ _) x1.1 (by simp; omega) (by simp; omega) (by simp) (by simp) ?_
  intro H2 vt o2 k2
  subst hT
  simp only [ofArgs, run_seq, run_block, run_ops, run_skip, run_exit, run_ret, thenQ_normal, thenQ_exit, thenQ_ret, blockQ_normal, blockQ_exit, blockQ_ret, retQ_ret, retQ_normal, ops_nil, ops_none, got_some, ops_wT, ops_wTn, ops_wF, ops_wFn, ops_wU, dops_wT, dops_wTn, dops_wF, dops_wFn, dops_wU, run_condT, run_condF, alt2_int, altB_bool, altI_int, altBB_bool, v_min, v_max, v_not, v_neg, optEv_none, optEv_some, isSome'_none, isSome'_some, pExt0, pExt1, pExt2, Bool.false_and, Bool.true_and, Bool.not_true, Bool.not_false, cond_true, cond_false, dops_nil, dops_none, xval_call, v_mov, v_bin, v_len, v_ext, v_idxA, v_ld, v_st, v_app, v_appN, v_cvs, v_bs1, pBs1, v_slc, v_conv, v_fld, v_fldA, v_new, v_box, v_mks, v_copy, v_isnil, v_nilck, v_pick, ev, evs_nil, evs_cons, fr_get_cons, fr_put_nil, fr_put_cons, fr_put_some, fr_put_none, fr_keep_nil, fr_keep_cons, fr_has_nil, fr_has_cons, Option.bind_some, Option.map_some, xbin, ibin, xresult_eq, xress_nil, xress_tmp, resV, ex_some, if_true, if_false, ite_true, ite_false, reduceIte, reduceCtorEq, Nat.reduceEqDiff, Nat.reduceLT, Nat.reduceLeDiff, Int.reduceLT, Int.reduceLE, Nat.zero_add, Nat.reduceAdd, Bool.false_eq_true, decide_eq_true_eq, decide_eq_false_iff_not, true_implies, false_implies, and_true, true_and]
  exact hq vt H2 (by simpa using o2) (Keep.trans (n0 := H.n) x1 k2)
end Go.Proofs.Ytejedmocjdcdgaa.D

set_option linter.unusedSimpArgs false
set_option linter.unusedVariables false
namespace Go.Proofs.Ytejedmocjdcdgaa.D
open Go Go.Det

/-! ### the reader of tapes: a box R of a track, a place and a unit -/
def Rdr (R : Nat) (H : AH) (vt : Value) (w : List Int) (pos : Nat) (u : Int) : Prop := H.get R = some ⟨[vt, .int .i64 (pos : Int), .int .i64 u], 1, false, false⟩ ∧ R < H.n ∧ Ints H vt w ∧ ¬ inB vt R
def Rd (R : Nat) (H H' : AH) : Prop := H'.n = H.n ∧ ∀ b, b ≠ R → H'.get b = H.get b
theorem Rd.refl (R : Nat) (H : AH) : Rd R H H := ⟨rfl, fun _ _ => rfl⟩
theorem Rd.trans {R : Nat} {A B C : AH} (h : Rd R A B) (k : Rd R B C) : Rd R A C := ⟨k.1.trans h.1, fun b hb => (k.2 b hb).trans (h.2 b hb)⟩
theorem st3_1' {H : AH} {B : Nat} {a b c b' : Value} (h : H.get B = some ⟨[a, b, c], 1, false, false⟩) (h1 : one b' = true) (h2 : vcells b' = [b']) : pSt 1 (.pointer (some ⟨B, 1, none⟩)) b' H = some (undef, H.set B ⟨[a, b', c], 1, false, false⟩) := by
  unfold pSt
  simp only [h, Option.bind_some, h2, List.all_cons, List.all_nil, h1]
  rfl
theorem Rdr.set {R : Nat} {H : AH} {vt : Value} {w : List Int} {pos : Nat} {u : Int} (h : Rdr R H vt w pos u) (pos' : Nat) (u' : Int) : Rdr R (H.set R ⟨[vt, .int .i64 (pos' : Int), .int .i64 u'], 1, false, false⟩) vt w pos' u' ∧ Rd R H (H.set R ⟨[vt, .int .i64 (pos' : Int), .int .i64 u'], 1, false, false⟩) := by
  obtain ⟨h1, h2, h3, h4⟩ := h
  refine ⟨⟨by rw [AH.get_set, if_pos rfl], h2, Sl.same h3 (Nat.le_refl _) fun b hb => by rw [AH.get_set, if_neg (fun e : b = R => h4 (e ▸ hb))], h4⟩, rfl, fun b hb => by rw [AH.get_set, if_neg hb]⟩
theorem pulse_ok (R : Nat) (H : AH) (vt : Value) (w : List Int) (pos : Nat) (u p : Int) (hr : Rdr R H vt w pos u) (hu : 1 ≤ u) (hu2 : u ≤ 1000) (hp : w[pos]? = some p) (hp1 : 1 ≤ p ∧ p ≤ 100000) (hw : w.length ≤ 40000) (Q : Value → AH → Prop)
    (hq : ∀ H', Rdr R H' vt w (pos + 1) u → Rd R H H' → Q (.int .i64 (celOf u p)) H') : Got (xc Try.prog tab 115 [.pointer (some ⟨R, 0, none⟩)] H) Q := by
  refine got_call (res := [.tmp 2]) rfl ?_
  obtain ⟨r1, r2⟩ := hr.set (pos + 1) u
  obtain ⟨g, hn, hi, hd⟩ := hr
  have hpl : pos < w.length := (List.getElem?_eq_some_iff.1 hp).1
  have l1 := ld3_1 g
  have w1 : IntKind.i64.wrap ((pos : Int) + 1) = ((pos + 1 : Nat) : Int) := by rw [wrI _ (by omega) (by omega)]; omega
  have st := st3_1' (b' := .int .i64 ((pos + 1 : Nat) : Int)) g rfl rfl
  obtain ⟨g2, _, i2, _⟩ := id r1
  have m0 := ld3_0 g2
  have m1 := ld3_1 g2
  have m2 := ld3_2 g2
  have w2 : IntKind.i64.wrap (((pos + 1 : Nat) : Int) - 1) = (pos : Int) := by rw [wrI _ (by omega) (by omega)]; omega
  have e1 := ints_idx i2 (pos : Int) pos rfl hpl
  have e2 := ints_ld i2 pos p hp
  have w3 := wrI (2 * p) (by omega) (by omega)
  have w4 := wrI (2 * p + u) (by omega) (by omega)
  have w5 := wrI (2 * u) (by omega) (by omega)
  have z : ¬ 2 * u = 0 := by omega
  have q0 : 0 ≤ Int.tdiv (2 * p + u) (2 * u) := Int.tdiv_nonneg (by omega) (by omega)
  have q1 : Int.tdiv (2 * p + u) (2 * u) ≤ 2 * p + u := by
    rw [Int.tdiv_eq_ediv_of_nonneg (by omega)]; exact Int.ediv_le_self _ (by omega)
  have w6 := wrI (Int.tdiv (2 * p + u) (2 * u)) (by omega) (by omega)
  simp only [ofArgs, run_seq, run_block, run_ops, run_skip, run_exit, run_ret, thenQ_normal, thenQ_exit, thenQ_ret, blockQ_normal, blockQ_exit, blockQ_ret, retQ_ret, retQ_normal, ops_nil, ops_none, got_some, ops_wT, ops_wTn, ops_wF, ops_wFn, ops_wU, dops_wT, dops_wTn, dops_wF, dops_wFn, dops_wU, run_condT, run_condF, alt2_int, altB_bool, altI_int, altBB_bool, v_min, v_max, v_not, v_neg, optEv_none, optEv_some, isSome'_none, isSome'_some, pExt0, pExt1, pExt2, Bool.false_and, Bool.true_and, Bool.not_true, Bool.not_false, cond_true, cond_false, dops_nil, dops_none, xval_call, v_mov, v_bin, v_len, v_ext, v_idxA, v_ld, v_st, v_app, v_appN, v_cvs, v_bs1, pBs1, v_slc, v_conv, v_fld, v_fldA, v_new, v_box, v_mks, v_copy, v_isnil, v_nilck, v_pick, ev, evs_nil, evs_cons, fr_get_cons, fr_put_nil, fr_put_cons, fr_put_some, fr_put_none, fr_keep_nil, fr_keep_cons, fr_has_nil, fr_has_cons, Option.bind_some, Option.map_some, xbin, ibin, xresult_eq, xress_nil, xress_tmp, resV, ex_some, if_true, if_false, ite_true, ite_false, reduceIte, reduceCtorEq, Nat.reduceEqDiff, Nat.reduceLT, Nat.reduceLeDiff, Int.reduceLT, Int.reduceLE, Nat.zero_add, Nat.reduceAdd, Bool.false_eq_true, decide_eq_true_eq, decide_eq_false_iff_not, true_implies, false_implies, and_true, true_and, pNil_ptr, fldA0, fldA1, fldA2, l1, w1, st]
  refine run_dops _ _ _ _ _ rfl ?_
  simp only [ofArgs, run_seq, run_block, run_ops, run_skip, run_exit, run_ret, thenQ_normal, thenQ_exit, thenQ_ret, blockQ_normal, blockQ_exit, blockQ_ret, retQ_ret, retQ_normal, ops_nil, ops_none, got_some, ops_wT, ops_wTn, ops_wF, ops_wFn, ops_wU, dops_wT, dops_wTn, dops_wF, dops_wFn, dops_wU, run_condT, run_condF, alt2_int, altB_bool, altI_int, altBB_bool, v_min, v_max, v_not, v_neg, optEv_none, optEv_some, isSome'_none, isSome'_some, pExt0, pExt1, pExt2, Bool.false_and, Bool.true_and, Bool.not_true, Bool.not_false, cond_true, cond_false, dops_nil, dops_none, xval_call, v_mov, v_bin, v_len, v_ext, v_idxA, v_ld, v_st, v_app, v_appN, v_cvs, v_bs1, pBs1, v_slc, v_conv, v_fld, v_fldA, v_new, v_box, v_mks, v_copy, v_isnil, v_nilck, v_pick, ev, evs_nil, evs_cons, fr_get_cons, fr_put_nil, fr_put_cons, fr_put_some, fr_put_none, fr_keep_nil, fr_keep_cons, fr_has_nil, fr_has_cons, Option.bind_some, Option.map_some, xbin, ibin, xresult_eq, xress_nil, xress_tmp, resV, ex_some, if_true, if_false, ite_true, ite_false, reduceIte, reduceCtorEq, Nat.reduceEqDiff, Nat.reduceLT, Nat.reduceLeDiff, Int.reduceLT, Int.reduceLE, Nat.zero_add, Nat.reduceAdd, Bool.false_eq_true, decide_eq_true_eq, decide_eq_false_iff_not, true_implies, false_implies, and_true, true_and, pNil_ptr, fldA0, fldA1, fldA2, m0, m1, m2, w2, e1, e2, w3, w4, w5, z, w6]
  exact hq _ r1 r2
theorem is_xc (n m : Int) (h1 : 0 ≤ n) (h2 : n ≤ 1000000) (h3 : 0 ≤ m) (h4 : m ≤ 1000) (H : AH) : xc Try.prog tab 114 [.int .i64 n, .int .i64 m] H = some (.bool (decide (4 * n ≥ 3 * m) && decide (4 * n ≤ 5 * m)), H) := by
  refine got_xc (got_call (res := [.tmp 4]) rfl ?_)
  have w1 := wrI (4 * n) (by omega) (by omega)
  have w2 := wrI (3 * m) (by omega) (by omega)
  have w3 := wrI (5 * m) (by omega) (by omega)
  by_cases c1 : 4 * n ≥ 3 * m
  · by_cases c2 : 4 * n ≤ 5 * m
    · simp only [ofArgs, run_seq, run_block, run_ops, run_skip, run_exit, run_ret, thenQ_normal, thenQ_exit, thenQ_ret, blockQ_normal, blockQ_exit, blockQ_ret, retQ_ret, retQ_normal, ops_nil, ops_none, got_some, ops_wT, ops_wTn, ops_wF, ops_wFn, ops_wU, dops_wT, dops_wTn, dops_wF, dops_wFn, dops_wU, run_condT, run_condF, alt2_int, altB_bool, altI_int, altBB_bool, v_min, v_max, v_not, v_neg, optEv_none, optEv_some, isSome'_none, isSome'_some, pExt0, pExt1, pExt2, Bool.false_and, Bool.true_and, Bool.not_true, Bool.not_false, cond_true, cond_false, dops_nil, dops_none, xval_call, v_mov, v_bin, v_len, v_ext, v_idxA, v_ld, v_st, v_app, v_appN, v_cvs, v_bs1, pBs1, v_slc, v_conv, v_fld, v_fldA, v_new, v_box, v_mks, v_copy, v_isnil, v_nilck, v_pick, ev, evs_nil, evs_cons, fr_get_cons, fr_put_nil, fr_put_cons, fr_put_some, fr_put_none, fr_keep_nil, fr_keep_cons, fr_has_nil, fr_has_cons, Option.bind_some, Option.map_some, xbin, ibin, xresult_eq, xress_nil, xress_tmp, resV, ex_some, if_true, if_false, ite_true, ite_false, reduceIte, reduceCtorEq, Nat.reduceEqDiff, Nat.reduceLT, Nat.reduceLeDiff, Int.reduceLT, Int.reduceLE, Nat.zero_add, Nat.reduceAdd, Bool.false_eq_true, decide_eq_true_eq, decide_eq_false_iff_not, true_implies, false_implies, and_true, true_and, w1, w2, w3, c1, c2, decide_true]
    · simp only [ofArgs, run_seq, run_block, run_ops, run_skip, run_exit, run_ret, thenQ_normal, thenQ_exit, thenQ_ret, blockQ_normal, blockQ_exit, blockQ_ret, retQ_ret, retQ_normal, ops_nil, ops_none, got_some, ops_wT, ops_wTn, ops_wF, ops_wFn, ops_wU, dops_wT, dops_wTn, dops_wF, dops_wFn, dops_wU, run_condT, run_condF, alt2_int, altB_bool, altI_int, altBB_bool, v_min, v_max, v_not, v_neg, optEv_none, optEv_some, isSome'_none, isSome'_some, pExt0, pExt1, pExt2, Bool.false_and, Bool.true_and, Bool.not_true, Bool.not_false, cond_true, cond_false, dops_nil, dops_none, xval_call, v_mov, v_bin, v_len, v_ext, v_idxA, v_ld, v_st, v_app, v_appN, v_cvs, v_bs1, pBs1, v_slc, v_conv, v_fld, v_fldA, v_new, v_box, v_mks, v_copy, v_isnil, v_nilck, v_pick, ev, evs_nil, evs_cons, fr_get_cons, fr_put_nil, fr_put_cons, fr_put_some, fr_put_none, fr_keep_nil, fr_keep_cons, fr_has_nil, fr_has_cons, Option.bind_some, Option.map_some, xbin, ibin, xresult_eq, xress_nil, xress_tmp, resV, ex_some, if_true, if_false, ite_true, ite_false, reduceIte, reduceCtorEq, Nat.reduceEqDiff, Nat.reduceLT, Nat.reduceLeDiff, Int.reduceLT, Int.reduceLE, Nat.zero_add, Nat.reduceAdd, Bool.false_eq_true, decide_eq_true_eq, decide_eq_false_iff_not, true_implies, false_implies, and_true, true_and, w1, w2, w3, c1, c2, decide_true, decide_false, Bool.and_false]
  · simp only [ofArgs, run_seq, run_block, run_ops, run_skip, run_exit, run_ret, thenQ_normal, thenQ_exit, thenQ_ret, blockQ_normal, blockQ_exit, blockQ_ret, retQ_ret, retQ_normal, ops_nil, ops_none, got_some, ops_wT, ops_wTn, ops_wF, ops_wFn, ops_wU, dops_wT, dops_wTn, dops_wF, dops_wFn, dops_wU, run_condT, run_condF, alt2_int, altB_bool, altI_int, altBB_bool, v_min, v_max, v_not, v_neg, optEv_none, optEv_some, isSome'_none, isSome'_some, pExt0, pExt1, pExt2, Bool.false_and, Bool.true_and, Bool.not_true, Bool.not_false, cond_true, cond_false, dops_nil, dops_none, xval_call, v_mov, v_bin, v_len, v_ext, v_idxA, v_ld, v_st, v_app, v_appN, v_cvs, v_bs1, pBs1, v_slc, v_conv, v_fld, v_fldA, v_new, v_box, v_mks, v_copy, v_isnil, v_nilck, v_pick, ev, evs_nil, evs_cons, fr_get_cons, fr_put_nil, fr_put_cons, fr_put_some, fr_put_none, fr_keep_nil, fr_keep_cons, fr_has_nil, fr_has_cons, Option.bind_some, Option.map_some, xbin, ibin, xresult_eq, xress_nil, xress_tmp, resV, ex_some, if_true, if_false, ite_true, ite_false, reduceIte, reduceCtorEq, Nat.reduceEqDiff, Nat.reduceLT, Nat.reduceLeDiff, Int.reduceLT, Int.reduceLE, Nat.zero_add, Nat.reduceAdd, Bool.false_eq_true, decide_eq_true_eq, decide_eq_false_iff_not, true_implies, false_implies, and_true, true_and, w1, w2, w3, c1, decide_false]
/-- what stands at a place, in units -/
def At (u : Int) (w : List Int) (pos : Nat) (ns : List Int) : Prop := ∀ k x, ns[k]? = some x → ∃ p, w[pos + k]? = some p ∧ (1 ≤ p ∧ p ≤ 100000) ∧ celOf u p = x
theorem At.head {u : Int} {w : List Int} {pos : Nat} {x : Int} {ns : List Int} (h : At u w pos (x :: ns)) : (∃ p, w[pos]? = some p ∧ (1 ≤ p ∧ p ≤ 100000) ∧ celOf u p = x) ∧ At u w (pos + 1) ns :=
  ⟨h 0 x rfl, fun k y hk => by have := h (k + 1) y (by simpa using hk); rwa [show pos + (k + 1) = pos + 1 + k by omega] at this⟩
theorem At.app {u : Int} {w : List Int} {pos : Nat} {a b : List Int} (h : At u w pos (a ++ b)) : At u w pos a ∧ At u w (pos + a.length) b :=
  ⟨fun k x hk => h k x (by rw [List.getElem?_append_left (List.getElem?_eq_some_iff.1 hk).1]; exact hk), fun k x hk => by
    have := h (a.length + k) x (by rw [List.getElem?_append_right (by omega), show a.length + k - a.length = k by omega]; exact hk)
    rwa [← Nat.add_assoc] at this⟩
theorem bit_ok (R : Nat) (H : AH) (vt : Value) (w : List Int) (pos : Nat) (u : Int) (b : Bool) (hr : Rdr R H vt w pos u) (hu : 1 ≤ u) (hu2 : u ≤ 1000) (ha : At u w pos [bitU b, bitU b]) (hw : w.length ≤ 40000) (Q : Value → AH → Prop)
    (hq : ∀ H', Rdr R H' vt w (pos + 2) u → Rd R H H' → Q (.tuple #[.int .i64 (b.toNat : Int), .int .i64 0]) H') : Got (xc Try.prog tab 134 [.pointer (some ⟨R, 0, none⟩)] H) Q := by
  refine got_call (res := [.tmp 2, .tmp 3]) rfl ?_
  obtain ⟨⟨p, hp, hp1, hpc⟩, ha2⟩ := ha.head
  obtain ⟨⟨p2, hp2, hp21, hpc2⟩, _⟩ := ha2.head
  have hl2 : pos + 1 < w.length := (List.getElem?_eq_some_iff.1 hp2).1
  obtain ⟨g, hn, hi, hd⟩ := id hr
  have m0 := ld3_0 g
  have m1 := ld3_1 g
  have e0 := ints_len hi
  have w1 := wrI ((w.length : Int) - (pos : Int)) (by omega) (by omega)
  have c1 : ¬ (w.length : Int) - (pos : Int) < 2 := by omega
  generalize hT : ((.seq (.ops [⟨some 17, .mov (.tmp 0), none⟩, ⟨some 18, .call 115 [.tmp 17], none⟩, ⟨some 19, .mov (.tmp 0), none⟩, ⟨some 20, .call 115 [.tmp 19], none⟩, ⟨some 4, .mov (.tmp 18), none⟩, ⟨some 5, .mov (.tmp 20), none⟩] [4, 5]) (.seq (.block 0 (.seq (.ops [⟨some 22, .mov (.tmp 4), none⟩, ⟨some 23, .call 114 [.tmp 22, .const (.int .i64 2)], none⟩, ⟨some 24, .mov (.tmp 23), none⟩, ⟨some 25, .mov (.tmp 5), some (24, true)⟩, ⟨some 26, .call 114 [.tmp 25, .const (.int .i64 2)], some (24, true)⟩, ⟨some 27, .pick (.tmp 24) (.tmp 26) (.const (.bool false)), none⟩, ⟨some 21, .mov (.tmp 27), none⟩] [4, 5, 21]) (.cond (.tmp 21) (.seq (.ops [⟨some 2, .mov (.const (.int .i64 0)), none⟩, ⟨some 3, .mov (.const (.int .i64 0)), none⟩] [2, 3]) .ret) (.seq (.ops [⟨some 29, .mov (.tmp 4), none⟩, ⟨some 30, .call 114 [.tmp 29, .const (.int .i64 4)], none⟩, ⟨some 31, .mov (.tmp 30), none⟩, ⟨some 32, .mov (.tmp 5), some (31, true)⟩, ⟨some 33, .call 114 [.tmp 32, .const (.int .i64 4)], some (31, true)⟩, ⟨some 34, .pick (.tmp 31) (.tmp 33) (.const (.bool false)), none⟩, ⟨some 28, .mov (.tmp 34), none⟩] [28]) (.cond (.tmp 28) (.seq (.ops [⟨some 2, .mov (.const (.int .i64 1)), none⟩, ⟨some 3, .mov (.const (.int .i64 0)), none⟩] [2, 3]) .ret) .skip))))) (.seq (.ops [⟨some 2, .mov (.const (.int .i64 0)), none⟩, ⟨some 3, .mov (.const (.int .i64 18)), none⟩] [2, 3]) .ret))) : XCode) = T
  simp only [ofArgs, run_seq, run_block, run_ops, run_skip, run_exit, run_ret, thenQ_normal, thenQ_exit, thenQ_ret, blockQ_normal, blockQ_exit, blockQ_ret, retQ_ret, retQ_normal, ops_nil, ops_none, got_some, ops_wT, ops_wTn, ops_wF, ops_wFn, ops_wU, dops_wT, dops_wTn, dops_wF, dops_wFn, dops_wU, run_condT, run_condF, alt2_int, altB_bool, altI_int, altBB_bool, v_min, v_max, v_not, v_neg, optEv_none, optEv_some, isSome'_none, isSome'_some, pExt0, pExt1, pExt2, Bool.false_and, Bool.true_and, Bool.not_true, Bool.not_false, cond_true, cond_false, dops_nil, dops_none, xval_call, v_mov, v_bin, v_len, v_ext, v_idxA, v_ld, v_st, v_app, v_appN, v_cvs, v_bs1, pBs1, v_slc, v_conv, v_fld, v_fldA, v_new, v_box, v_mks, v_copy, v_isnil, v_nilck, v_pick, ev, evs_nil, evs_cons, fr_get_cons, fr_put_nil, fr_put_cons, fr_put_some, fr_put_none, fr_keep_nil, fr_keep_cons, fr_has_nil, fr_has_cons, Option.bind_some, Option.map_some, xbin, ibin, xresult_eq, xress_nil, xress_tmp, resV, ex_some, if_true, if_false, ite_true, ite_false, reduceIte, reduceCtorEq, Nat.reduceEqDiff, Nat.reduceLT, Nat.reduceLeDiff, Int.reduceLT, Int.reduceLE, Nat.zero_add, Nat.reduceAdd, Bool.false_eq_true, decide_eq_true_eq, decide_eq_false_iff_not, true_implies, false_implies, and_true, true_and]
  refine run_dops _ _ _ _ _ rfl ?_
  simp only [ofArgs, run_seq, run_block, run_ops, run_skip, run_exit, run_ret, thenQ_normal, thenQ_exit, thenQ_ret, blockQ_normal, blockQ_exit, blockQ_ret, retQ_ret, retQ_normal, ops_nil, ops_none, got_some, ops_wT, ops_wTn, ops_wF, ops_wFn, ops_wU, dops_wT, dops_wTn, dops_wF, dops_wFn, dops_wU, run_condT, run_condF, alt2_int, altB_bool, altI_int, altBB_bool, v_min, v_max, v_not, v_neg, optEv_none, optEv_some, isSome'_none, isSome'_some, pExt0, pExt1, pExt2, Bool.false_and, Bool.true_and, Bool.not_true, Bool.not_false, cond_true, cond_false, dops_nil, dops_none, xval_call, v_mov, v_bin, v_len, v_ext, v_idxA, v_ld, v_st, v_app, v_appN, v_cvs, v_bs1, pBs1, v_slc, v_conv, v_fld, v_fldA, v_new, v_box, v_mks, v_copy, v_isnil, v_nilck, v_pick, ev, evs_nil, evs_cons, fr_get_cons, fr_put_nil, fr_put_cons, fr_put_some, fr_put_none, fr_keep_nil, fr_keep_cons, fr_has_nil, fr_has_cons, Option.bind_some, Option.map_some, xbin, ibin, xresult_eq, xress_nil, xress_tmp, resV, ex_some, if_true, if_false, ite_true, ite_false, reduceIte, reduceCtorEq, Nat.reduceEqDiff, Nat.reduceLT, Nat.reduceLeDiff, Int.reduceLT, Int.reduceLE, Nat.zero_add, Nat.reduceAdd, Bool.false_eq_true, decide_eq_true_eq, decide_eq_false_iff_not, true_implies, false_implies, and_true, true_and, pNil_ptr, fldA0, fldA1, m0, m1, e0, w1, c1, decide_false]
  subst hT
  simp only [ofArgs, run_seq, run_block, run_ops, run_skip, run_exit, run_ret, thenQ_normal, thenQ_exit, thenQ_ret, blockQ_normal, blockQ_exit, blockQ_ret, retQ_ret, retQ_normal, ops_nil, ops_none, got_some, ops_wT, ops_wTn, ops_wF, ops_wFn, ops_wU, dops_wT, dops_wTn, dops_wF, dops_wFn, dops_wU, run_condT, run_condF, alt2_int, altB_bool, altI_int, altBB_bool, v_min, v_max, v_not, v_neg, optEv_none, optEv_some, isSome'_none, isSome'_some, pExt0, pExt1, pExt2, Bool.false_and, Bool.true_and, Bool.not_true, Bool.not_false, cond_true, cond_false, dops_nil, dops_none, xval_call, v_mov, v_bin, v_len, v_ext, v_idxA, v_ld, v_st, v_app, v_appN, v_cvs, v_bs1, pBs1, v_slc, v_conv, v_fld, v_fldA, v_new, v_box, v_mks, v_copy, v_isnil, v_nilck, v_pick, ev, evs_nil, evs_cons, fr_get_cons, fr_put_nil, fr_put_cons, fr_put_some, fr_put_none, fr_keep_nil, fr_keep_cons, fr_has_nil, fr_has_cons, Option.bind_some, Option.map_some, xbin, ibin, xresult_eq, xress_nil, xress_tmp, resV, ex_some, if_true, if_false, ite_true, ite_false, reduceIte, reduceCtorEq, Nat.reduceEqDiff, Nat.reduceLT, Nat.reduceLeDiff, Int.reduceLT, Int.reduceLE, Nat.zero_add, Nat.reduceAdd, Bool.false_eq_true, decide_eq_true_eq, decide_eq_false_iff_not, true_implies, false_implies, and_true, true_and]
  refine pulse_ok R H vt w pos u p hr hu hu2 hp hp1 hw _ ?_
  intro H1 r1 k1
  rw [hpc]
  refine pulse_ok R H1 vt w (pos + 1) u p2 r1 hu hu2 hp2 hp21 hw _ ?_
  intro H2 r2 k2
  rw [hpc2]
  have i22 := is_xc 2 2 (by decide) (by decide) (by decide) (by decide) H2
  have i42 := is_xc 4 2 (by decide) (by decide) (by decide) (by decide) H2
  have i44 := is_xc 4 4 (by decide) (by decide) (by decide) (by decide) H2
  rw [show (decide ((4 : Int) * 2 ≥ 3 * 2) && decide ((4 : Int) * 2 ≤ 5 * 2)) = true from rfl] at i22
  rw [show (decide ((4 : Int) * 4 ≥ 3 * 2) && decide ((4 : Int) * 4 ≤ 5 * 2)) = false from rfl] at i42
  rw [show (decide ((4 : Int) * 4 ≥ 3 * 4) && decide ((4 : Int) * 4 ≤ 5 * 4)) = true from rfl] at i44
  have kk := k1.trans k2
  cases b with
  | false =>
    have eb : bitU false = 2 := rfl
    rw [eb]
    simp only [ofArgs, run_seq, run_block, run_ops, run_skip, run_exit, run_ret, thenQ_normal, thenQ_exit, thenQ_ret, blockQ_normal, blockQ_exit, blockQ_ret, retQ_ret, retQ_normal, ops_nil, ops_none, got_some, ops_wT, ops_wTn, ops_wF, ops_wFn, ops_wU, dops_wT, dops_wTn, dops_wF, dops_wFn, dops_wU, run_condT, run_condF, alt2_int, altB_bool, altI_int, altBB_bool, v_min, v_max, v_not, v_neg, optEv_none, optEv_some, isSome'_none, isSome'_some, pExt0, pExt1, pExt2, Bool.false_and, Bool.true_and, Bool.not_true, Bool.not_false, cond_true, cond_false, dops_nil, dops_none, xval_call, v_mov, v_bin, v_len, v_ext, v_idxA, v_ld, v_st, v_app, v_appN, v_cvs, v_bs1, pBs1, v_slc, v_conv, v_fld, v_fldA, v_new, v_box, v_mks, v_copy, v_isnil, v_nilck, v_pick, ev, evs_nil, evs_cons, fr_get_cons, fr_put_nil, fr_put_cons, fr_put_some, fr_put_none, fr_keep_nil, fr_keep_cons, fr_has_nil, fr_has_cons, Option.bind_some, Option.map_some, xbin, ibin, xresult_eq, xress_nil, xress_tmp, resV, ex_some, if_true, if_false, ite_true, ite_false, reduceIte, reduceCtorEq, Nat.reduceEqDiff, Nat.reduceLT, Nat.reduceLeDiff, Int.reduceLT, Int.reduceLE, Nat.zero_add, Nat.reduceAdd, Bool.false_eq_true, decide_eq_true_eq, decide_eq_false_iff_not, true_implies, false_implies, and_true, true_and, i22]
    exact hq H2 r2 kk
  | true =>
    have eb : bitU true = 4 := rfl
    rw [eb]
    simp only [ofArgs, run_seq, run_block, run_ops, run_skip, run_exit, run_ret, thenQ_normal, thenQ_exit, thenQ_ret, blockQ_normal, blockQ_exit, blockQ_ret, retQ_ret, retQ_normal, ops_nil, ops_none, got_some, ops_wT, ops_wTn, ops_wF, ops_wFn, ops_wU, dops_wT, dops_wTn, dops_wF, dops_wFn, dops_wU, run_condT, run_condF, alt2_int, altB_bool, altI_int, altBB_bool, v_min, v_max, v_not, v_neg, optEv_none, optEv_some, isSome'_none, isSome'_some, pExt0, pExt1, pExt2, Bool.false_and, Bool.true_and, Bool.not_true, Bool.not_false, cond_true, cond_false, dops_nil, dops_none, xval_call, v_mov, v_bin, v_len, v_ext, v_idxA, v_ld, v_st, v_app, v_appN, v_cvs, v_bs1, pBs1, v_slc, v_conv, v_fld, v_fldA, v_new, v_box, v_mks, v_copy, v_isnil, v_nilck, v_pick, ev, evs_nil, evs_cons, fr_get_cons, fr_put_nil, fr_put_cons, fr_put_some, fr_put_none, fr_keep_nil, fr_keep_cons, fr_has_nil, fr_has_cons, Option.bind_some, Option.map_some, xbin, ibin, xresult_eq, xress_nil, xress_tmp, resV, ex_some, if_true, if_false, ite_true, ite_false, reduceIte, reduceCtorEq, Nat.reduceEqDiff, Nat.reduceLT, Nat.reduceLeDiff, Int.reduceLT, Int.reduceLE, Nat.zero_add, Nat.reduceAdd, Bool.false_eq_true, decide_eq_true_eq, decide_eq_false_iff_not, true_implies, false_implies, and_true, true_and, i42, i44]
    exact hq H2 r2 kk
theorem byte_l0 (R : Nat) (vt : Value) (w : List Int) (u : Int) (hu : 1 ≤ u) (hu2 : u ≤ 1000) (hw : w.length ≤ 40000) (c : Nat) (hc : c < 256) (r : Nat) : ∀ (pos : Nat) (H : AH) (i : Int) (Q : XExit → Fr → AH → Prop), Rdr R H vt w pos u → At u w pos (bytU c r) → r ≤ 8 → i = 8 - (r : Int) →
    (∀ H', Rdr R H' vt w (pos + 2 * r) u → Rd R H H' → Q (.exit 0) [(0, .pointer (some ⟨R, 0, none⟩)), (4, .int .i64 (c : Int)), (7, .int .i64 8), (8, .bool false)] H') →
    Run Try.prog tab (.loop xtape_reader_byte_l0) [(0, .pointer (some ⟨R, 0, none⟩)), (4, .int .i64 ((c >>> r : Nat) : Int)), (7, .int .i64 i)] H Q := by
  induction r with
  | zero =>
    intro pos H i Q hr ha h8 hi hq
    rw [run_loop]
    generalize hL : XCode.loop xtape_reader_byte_l0 = L
    have hi8 : i = 8 := by omega
    subst hi8
    simp only [xtape_reader_byte_l0, ofArgs, run_seq, run_block, run_ops, run_skip, run_exit, run_ret, thenQ_normal, thenQ_exit, thenQ_ret, blockQ_normal, blockQ_exit, blockQ_ret, retQ_ret, retQ_normal, ops_nil, ops_none, got_some, ops_wT, ops_wTn, ops_wF, ops_wFn, ops_wU, dops_wT, dops_wTn, dops_wF, dops_wFn, dops_wU, run_condT, run_condF, alt2_int, altB_bool, altI_int, altBB_bool, v_min, v_max, v_not, v_neg, optEv_none, optEv_some, isSome'_none, isSome'_some, pExt0, pExt1, pExt2, Bool.false_and, Bool.true_and, Bool.not_true, Bool.not_false, cond_true, cond_false, dops_nil, dops_none, xval_call, v_mov, v_bin, v_len, v_ext, v_idxA, v_ld, v_st, v_app, v_appN, v_cvs, v_bs1, pBs1, v_slc, v_conv, v_fld, v_fldA, v_new, v_box, v_mks, v_copy, v_isnil, v_nilck, v_pick, ev, evs_nil, evs_cons, fr_get_cons, fr_put_nil, fr_put_cons, fr_put_some, fr_put_none, fr_keep_nil, fr_keep_cons, fr_has_nil, fr_has_cons, Option.bind_some, Option.map_some, xbin, ibin, xresult_eq, xress_nil, xress_tmp, resV, ex_some, if_true, if_false, ite_true, ite_false, reduceIte, reduceCtorEq, Nat.reduceEqDiff, Nat.reduceLT, Nat.reduceLeDiff, Int.reduceLT, Int.reduceLE, Nat.zero_add, Nat.reduceAdd, Bool.false_eq_true, decide_eq_true_eq, decide_eq_false_iff_not, true_implies, false_implies, and_true, true_and, Int.lt_irrefl, decide_false, Nat.shiftRight_zero]
    exact hq H hr (.refl _ _)
  | succ r ih =>
    intro pos H i Q hr ha h8 hi hq
    rw [run_loop]
    generalize hL : XCode.loop xtape_reader_byte_l0 = L
    have hlt : i < 8 := by omega
    have ha' : At u w pos ([bitU (c.testBit r), bitU (c.testBit r)] ++ bytU c r) := ha
    obtain ⟨a1, a2⟩ := ha'.app
    have z0 : ((0 : Int) != 0) = false := rfl
    have hs : c >>> (r + 1) < 256 := by rw [Nat.shiftRight_eq_div_pow]; exact Nat.lt_of_le_of_lt (Nat.div_le_self _ _) hc
    have hb : 2 * (c >>> (r + 1)) + (c.testBit r).toNat = c >>> r := by
      rw [Nat.shiftRight_add, Nat.shiftRight_eq_div_pow _ 1, Nat.testBit_eq_decide_div_mod_eq, Nat.shiftRight_eq_div_pow]
      have h2 := Nat.mod_two_eq_zero_or_one (c / 2 ^ r)
      rcases h2 with h2 | h2
      · rw [h2]; simp; omega
      · rw [h2]; simp; omega
    have w1 := wrI (2 * ((c >>> (r + 1) : Nat) : Int)) (by omega) (by omega)
    have w2 : IntKind.i64.wrap (2 * ((c >>> (r + 1) : Nat) : Int) + ((c.testBit r).toNat : Int)) = ((c >>> r : Nat) : Int) := by rw [wrI _ (by omega) (by have : (c.testBit r).toNat ≤ 1 := Bool.toNat_le _; omega)]; omega
    have w3 := wrI (i + 1) (by omega) (by omega)
    simp only [xtape_reader_byte_l0, ofArgs, run_seq, run_block, run_ops, run_skip, run_exit, run_ret, thenQ_normal, thenQ_exit, thenQ_ret, blockQ_normal, blockQ_exit, blockQ_ret, retQ_ret, retQ_normal, ops_nil, ops_none, got_some, ops_wT, ops_wTn, ops_wF, ops_wFn, ops_wU, dops_wT, dops_wTn, dops_wF, dops_wFn, dops_wU, run_condT, run_condF, alt2_int, altB_bool, altI_int, altBB_bool, v_min, v_max, v_not, v_neg, optEv_none, optEv_some, isSome'_none, isSome'_some, pExt0, pExt1, pExt2, Bool.false_and, Bool.true_and, Bool.not_true, Bool.not_false, cond_true, cond_false, dops_nil, dops_none, xval_call, v_mov, v_bin, v_len, v_ext, v_idxA, v_ld, v_st, v_app, v_appN, v_cvs, v_bs1, pBs1, v_slc, v_conv, v_fld, v_fldA, v_new, v_box, v_mks, v_copy, v_isnil, v_nilck, v_pick, ev, evs_nil, evs_cons, fr_get_cons, fr_put_nil, fr_put_cons, fr_put_some, fr_put_none, fr_keep_nil, fr_keep_cons, fr_has_nil, fr_has_cons, Option.bind_some, Option.map_some, xbin, ibin, xresult_eq, xress_nil, xress_tmp, resV, ex_some, if_true, if_false, ite_true, ite_false, reduceIte, reduceCtorEq, Nat.reduceEqDiff, Nat.reduceLT, Nat.reduceLeDiff, Int.reduceLT, Int.reduceLE, Nat.zero_add, Nat.reduceAdd, Bool.false_eq_true, decide_eq_true_eq, decide_eq_false_iff_not, true_implies, false_implies, and_true, true_and, hlt, decide_true]
    refine bit_ok R H vt w pos u (c.testBit r) hr hu hu2 a1 hw _ ?_
    intro H1 r1 k1
    simp only [ofArgs, run_seq, run_block, run_ops, run_skip, run_exit, run_ret, thenQ_normal, thenQ_exit, thenQ_ret, blockQ_normal, blockQ_exit, blockQ_ret, retQ_ret, retQ_normal, ops_nil, ops_none, got_some, ops_wT, ops_wTn, ops_wF, ops_wFn, ops_wU, dops_wT, dops_wTn, dops_wF, dops_wFn, dops_wU, run_condT, run_condF, alt2_int, altB_bool, altI_int, altBB_bool, v_min, v_max, v_not, v_neg, optEv_none, optEv_some, isSome'_none, isSome'_some, pExt0, pExt1, pExt2, Bool.false_and, Bool.true_and, Bool.not_true, Bool.not_false, cond_true, cond_false, dops_nil, dops_none, xval_call, v_mov, v_bin, v_len, v_ext, v_idxA, v_ld, v_st, v_app, v_appN, v_cvs, v_bs1, pBs1, v_slc, v_conv, v_fld, v_fldA, v_new, v_box, v_mks, v_copy, v_isnil, v_nilck, v_pick, ev, evs_nil, evs_cons, fr_get_cons, fr_put_nil, fr_put_cons, fr_put_some, fr_put_none, fr_keep_nil, fr_keep_cons, fr_has_nil, fr_has_cons, Option.bind_some, Option.map_some, xbin, ibin, xresult_eq, xress_nil, xress_tmp, resV, ex_some, if_true, if_false, ite_true, ite_false, reduceIte, reduceCtorEq, Nat.reduceEqDiff, Nat.reduceLT, Nat.reduceLeDiff, Int.reduceLT, Int.reduceLE, Nat.zero_add, Nat.reduceAdd, Bool.false_eq_true, decide_eq_true_eq, decide_eq_false_iff_not, true_implies, false_implies, and_true, true_and, pExt0, pExt1, z0, w1, w2, w3]
    subst hL
    refine ih (pos + 2) H1 (i + 1) Q r1 a2 (by omega) (by omega) ?_
    intro H2 r2 k2
    rw [show pos + 2 + 2 * r = pos + 2 * (r + 1) by omega] at r2
    exact hq H2 r2 (k1.trans k2)
theorem byte_ok (R : Nat) (vt : Value) (w : List Int) (u : Int) (hu : 1 ≤ u) (hu2 : u ≤ 1000) (hw : w.length ≤ 40000) (c : Nat) (hc : c < 256) (pos : Nat) (H : AH) (hr : Rdr R H vt w pos u) (ha : At u w pos (bytU c 8)) (Q : Value → AH → Prop)
    (hq : ∀ H', Rdr R H' vt w (pos + 16) u → Rd R H H' → Q (.tuple #[.int .i64 (c : Int), .int .i64 0]) H') : Got (xc Try.prog tab 116 [.pointer (some ⟨R, 0, none⟩)] H) Q := by
  refine got_call (res := [.tmp 2, .tmp 3]) rfl ?_
  simp only [ofArgs, run_seq, run_block, run_ops, run_skip, run_exit, run_ret, thenQ_normal, thenQ_exit, thenQ_ret, blockQ_normal, blockQ_exit, blockQ_ret, retQ_ret, retQ_normal, ops_nil, ops_none, got_some, ops_wT, ops_wTn, ops_wF, ops_wFn, ops_wU, dops_wT, dops_wTn, dops_wF, dops_wFn, dops_wU, run_condT, run_condF, alt2_int, altB_bool, altI_int, altBB_bool, v_min, v_max, v_not, v_neg, optEv_none, optEv_some, isSome'_none, isSome'_some, pExt0, pExt1, pExt2, Bool.false_and, Bool.true_and, Bool.not_true, Bool.not_false, cond_true, cond_false, dops_nil, dops_none, xval_call, v_mov, v_bin, v_len, v_ext, v_idxA, v_ld, v_st, v_app, v_appN, v_cvs, v_bs1, pBs1, v_slc, v_conv, v_fld, v_fldA, v_new, v_box, v_mks, v_copy, v_isnil, v_nilck, v_pick, ev, evs_nil, evs_cons, fr_get_cons, fr_put_nil, fr_put_cons, fr_put_some, fr_put_none, fr_keep_nil, fr_keep_cons, fr_has_nil, fr_has_cons, Option.bind_some, Option.map_some, xbin, ibin, xresult_eq, xress_nil, xress_tmp, resV, ex_some, if_true, if_false, ite_true, ite_false, reduceIte, reduceCtorEq, Nat.reduceEqDiff, Nat.reduceLT, Nat.reduceLeDiff, Int.reduceLT, Int.reduceLE, Nat.zero_add, Nat.reduceAdd, Bool.false_eq_true, decide_eq_true_eq, decide_eq_false_iff_not, true_implies, false_implies, and_true, true_and]
  have tl := fun Q => byte_l0 R vt w u hu hu2 hw c hc 8 pos H 0 Q hr ha (Nat.le_refl _) rfl
  have h0 : ((c >>> 8 : Nat) : Int) = 0 := by rw [Nat.shiftRight_eq_div_pow]; have : c / 2 ^ 8 = 0 := by omega
                                              rw [this]; rfl
  rw [h0] at tl
  refine tl _ ?_
  intro H' r' k'
  simp only [ofArgs, run_seq, run_block, run_ops, run_skip, run_exit, run_ret, thenQ_normal, thenQ_exit, thenQ_ret, blockQ_normal, blockQ_exit, blockQ_ret, retQ_ret, retQ_normal, ops_nil, ops_none, got_some, ops_wT, ops_wTn, ops_wF, ops_wFn, ops_wU, dops_wT, dops_wTn, dops_wF, dops_wFn, dops_wU, run_condT, run_condF, alt2_int, altB_bool, altI_int, altBB_bool, v_min, v_max, v_not, v_neg, optEv_none, optEv_some, isSome'_none, isSome'_some, pExt0, pExt1, pExt2, Bool.false_and, Bool.true_and, Bool.not_true, Bool.not_false, cond_true, cond_false, dops_nil, dops_none, xval_call, v_mov, v_bin, v_len, v_ext, v_idxA, v_ld, v_st, v_app, v_appN, v_cvs, v_bs1, pBs1, v_slc, v_conv, v_fld, v_fldA, v_new, v_box, v_mks, v_copy, v_isnil, v_nilck, v_pick, ev, evs_nil, evs_cons, fr_get_cons, fr_put_nil, fr_put_cons, fr_put_some, fr_put_none, fr_keep_nil, fr_keep_cons, fr_has_nil, fr_has_cons, Option.bind_some, Option.map_some, xbin, ibin, xresult_eq, xress_nil, xress_tmp, resV, ex_some, if_true, if_false, ite_true, ite_false, reduceIte, reduceCtorEq, Nat.reduceEqDiff, Nat.reduceLT, Nat.reduceLeDiff, Int.reduceLT, Int.reduceLE, Nat.zero_add, Nat.reduceAdd, Bool.false_eq_true, decide_eq_true_eq, decide_eq_false_iff_not, true_implies, false_implies, and_true, true_and]
  exact hq H' r' k'
end Go.Proofs.Ytejedmocjdcdgaa.D

set_option linter.unusedSimpArgs false
set_option linter.unusedVariables false
namespace Go.Proofs.Ytejedmocjdcdgaa.D
open Go Go.Det

theorem st3_0 {H : AH} {B : Nat} {a b c a' : Value} (h : H.get B = some ⟨[a, b, c], 1, false, false⟩) (h1 : one a' = true) (h2 : vcells a' = [a']) : pSt 1 (.pointer (some ⟨B, 0, none⟩)) a' H = some (undef, H.set B ⟨[a', b, c], 1, false, false⟩) := by
  unfold pSt
  simp only [h, Option.bind_some, h2, List.all_cons, List.all_nil, h1]
  rfl
theorem st3_1 {H : AH} {B : Nat} {a b c b' : Value} (h : H.get B = some ⟨[a, b, c], 1, false, false⟩) (h1 : one b' = true) (h2 : vcells b' = [b']) : pSt 1 (.pointer (some ⟨B, 1, none⟩)) b' H = some (undef, H.set B ⟨[a, b', c], 1, false, false⟩) := by
  unfold pSt
  simp only [h, Option.bind_some, h2, List.all_cons, List.all_nil, h1]
  rfl

/-! ### places and the lengths between changes -/
theorem snoc_ind {P : List Bool → Prop} (h0 : P []) (h1 : ∀ q b, P q → P (q ++ [b])) (q : List Bool) : P q := by
  have key : ∀ r : List Bool, P r.reverse := by
    intro r
    induction r with
    | nil => exact h0
    | cons b r ih => rw [List.reverse_cons]; exact h1 _ _ ih
  have := key q.reverse
  rwa [List.reverse_reverse] at this
def plc (s : List Int × Nat) (b : Bool) : List Int × Nat := if b then (s.1 ++ [((s.2 + 1 : Nat) : Int)], 0) else (s.1, s.2 + 1)
def gaps (q : List Bool) : List Int × Nat := q.foldl plc ([], 0)
theorem gaps_snoc (q : List Bool) (b : Bool) : gaps (q ++ [b]) = plc (gaps q) b := by unfold gaps; rw [List.foldl_append]; rfl
theorem gaps_len (q : List Bool) : (gaps q).1.length ≤ q.length ∧ (gaps q).2 ≤ q.length := by
  refine snoc_ind (P := fun q => (gaps q).1.length ≤ q.length ∧ (gaps q).2 ≤ q.length) (by simp [gaps]) (fun q b ih => ?_) q
  rw [gaps_snoc, List.length_append]
  unfold plc
  split <;> simp <;> omega
def expand : List Int → List Bool
  | [] => []
  | g :: l => List.replicate (g.toNat - 1) false ++ true :: expand l
theorem expand_app (l m : List Int) : expand (l ++ m) = expand l ++ expand m := by
  induction l with
  | nil => rfl
  | cons g l ih => simp [expand, ih]
theorem expand_gaps (q : List Bool) : expand (gaps q).1 ++ List.replicate (gaps q).2 false = q := by
  refine snoc_ind (P := fun q => expand (gaps q).1 ++ List.replicate (gaps q).2 false = q) rfl (fun q b ih => ?_) q
  rw [gaps_snoc]
  unfold plc
  cases b with
  | true =>
    simp only [if_true]
    rw [expand_app]
    conv => rhs; rw [← ih]
    simp [expand]
  | false =>
    simp only [Bool.false_eq_true, if_false]
    conv => rhs; rw [← ih]
    rw [List.replicate_succ', List.append_assoc]
theorem gaps_pos (q : List Bool) : ∀ g ∈ (gaps q).1, 1 ≤ g := by
  refine snoc_ind (P := fun q => ∀ g ∈ (gaps q).1, 1 ≤ g) (by simp [gaps]) (fun q b ih => ?_) q
  intro g h
  rw [gaps_snoc] at h
  unfold plc at h
  split at h
  · rcases List.mem_append.1 h with h | h
    · exact ih g h
    · simp at h; omega
  · exact ih g h

/-- the bits of a byte, each with its clock -/
def msym (c : Nat) (mark : Bool) : Nat → Bool → List Bool
  | 0, _ => []
  | r + 1, last => (!(c.testBit r) && !last && !(mark && decide (r = 2))) :: c.testBit r :: msym c mark r (c.testBit r)
theorem msym_len (c : Nat) (mark : Bool) (r : Nat) : ∀ last, (msym c mark r last).length = 2 * r := by
  induction r with
  | zero => intro last; rfl
  | succ r ih => intro last; simp [msym, ih]; omega

/-- a writer -/
def Wr (n0 : Nat) (H : AH) (W : Nat) (q : List Bool) (last : Bool) : Prop :=
  W < n0 ∧ n0 ≤ H.n ∧ ∃ vl, H.get W = some ⟨[vl, .int .i64 ((gaps q).2 : Nat), .bool last], 1, false, false⟩ ∧ OwnI n0 H vl (gaps q).1
/-- all up to n0 is there, but for one block -/
def KeepB (n0 W : Nat) (H H' : AH) : Prop := H.n ≤ H'.n ∧ ∀ b, b < n0 → b ≠ W → H'.get b = H.get b
theorem KeepB.refl (n0 W : Nat) (H : AH) : KeepB n0 W H H := ⟨Nat.le_refl _, fun _ _ _ => rfl⟩
theorem KeepB.trans {n0 W : Nat} {A B C : AH} (h : KeepB n0 W A B) (k : KeepB n0 W B C) : KeepB n0 W A C := ⟨Nat.le_trans h.1 k.1, fun b hb hw => (k.2 b hb hw).trans (h.2 b hb hw)⟩

theorem kset (n0 W : Nat) (H : AH) (blk : Blk) : KeepB n0 W H (H.set W blk) := ⟨Nat.le_refl _, fun b _ hb => by rw [AH.get_set, if_neg hb]⟩
end Go.Proofs.Ytejedmocjdcdgaa.D

set_option linter.unusedSimpArgs false
set_option linter.unusedVariables false
namespace Go.Proofs.Ytejedmocjdcdgaa.D
open Go Go.Det

def syms : List Int → Bool → List Bool
  | [], _ => []
  | c :: l, last => msym c.toNat false 8 last ++ syms l (c.toNat.testBit 0)
def lastOf : List Int → Bool → Bool
  | [], last => last
  | c :: l, _ => lastOf l (c.toNat.testBit 0)
theorem syms_len (l : List Int) : ∀ last, (syms l last).length = 16 * l.length := by
  induction l with
  | nil => intro last; rfl
  | cons c l ih => intro last; simp [syms, msym_len, ih]; omega
/-- all places of a part alone, and the closing bit -/
def full (mark : Bool) (a : List Int) : List Bool := (if mark then msym 161 true 8 true else []) ++ syms a true ++ [false, true]
theorem full_len (mark : Bool) (a : List Int) : (full mark a).length = 2 * (8 * ((if mark then 1 else 0) + a.length) + 1) := by
  unfold full; cases mark <;> simp [msym_len, syms_len] <;> omega

/-! ### no length is above 4 -/
theorem gaps_app (q m : List Bool) : gaps (q ++ m) = m.foldl plc (gaps q) := by unfold gaps; rw [List.foldl_append]
def GB (q : List Bool) (last : Bool) : Prop := (∀ g ∈ (gaps q).1, g ≤ 4) ∧ (gaps q).2 ≤ 2 ∧ (last = true → (gaps q).2 = 0)
theorem gb_bit (q : List Bool) (last bit : Bool) (h : GB q last) : GB (q ++ [(!bit && !last), bit]) bit := by
  obtain ⟨h1, h2, h3⟩ := h
  unfold GB
  rw [gaps_app]
  generalize gaps q = s at h1 h2 h3
  obtain ⟨l, g⟩ := s
  simp only [] at h1 h2 h3
  cases bit <;> cases last
  · simp [plc]
    intro a ha
    rcases ha with ha | ha
    · exact h1 a ha
    · omega
  · have := h3 rfl
    subst this
    simp [plc]
    exact h1
  · simp [plc]
    intro a ha
    rcases ha with ha | ha
    · exact h1 a ha
    · omega
  · simp [plc]
    intro a ha
    rcases ha with ha | ha
    · exact h1 a ha
    · omega
theorem gb_sym (c : Nat) (r : Nat) : ∀ q last, GB q last → GB (q ++ msym c false r last) (if r = 0 then last else c.testBit 0) := by
  induction r with
  | zero => intro q last h; simpa [msym] using h
  | succ r ih =>
    intro q last h
    have h1 := ih _ _ (gb_bit q last (c.testBit r) h)
    have e : q ++ msym c false (r + 1) last = q ++ [(!(c.testBit r) && !last), c.testBit r] ++ msym c false r (c.testBit r) := by simp [msym]
    rw [e, if_neg (by omega)]
    by_cases hr : r = 0
    · subst hr; simpa using h1
    · rw [if_neg hr] at h1; exact h1
theorem gb_syms (a : List Int) : ∀ q last, GB q last → GB (q ++ syms a last) (lastOf a last) := by
  induction a with
  | nil => intro q last h; simpa [syms, lastOf] using h
  | cons c a ih =>
    intro q last h
    have h1 := ih _ _ (by simpa using gb_sym c.toNat 8 q last h)
    simpa [syms, lastOf] using h1
theorem gb_mark : GB (msym 161 true 8 true) true := by
  have e : gaps (msym 161 true 8 true) = ([2, 4, 3, 4, 3], 0) := by decide
  unfold GB
  rw [e]
  simp
theorem full_gb (mark : Bool) (a : List Int) : (∀ g ∈ (gaps (full mark a)).1, 1 ≤ g ∧ g ≤ 4) ∧ (gaps (full mark a)).2 = 0 := by
  have h0 : GB (if mark then msym 161 true 8 true else []) true := by
    cases mark
    · simp [GB, gaps]
    · exact gb_mark
  have h1 := gb_syms a _ _ h0
  have hp := gaps_pos (full mark a)
  have h2 : ∀ g ∈ (gaps (full mark a)).1, g ≤ 4 := by
    unfold full
    rw [gaps_app]
    generalize (if mark then msym 161 true 8 true else []) ++ syms a true = q at h1
    obtain ⟨g1, g2, g3⟩ := h1
    generalize gaps q = s at g1 g2 g3
    obtain ⟨l, g⟩ := s
    simp [plc] at g1 g2 ⊢
    intro b hb
    rcases hb with hb | hb
    · exact g1 b hb
    · omega
  refine ⟨fun g hg => ⟨hp g hg, h2 g hg⟩, ?_⟩
  unfold full
  rw [gaps_app]
  simp [plc]

/-! ### a list of one part -/
theorem ld_part {H : AH} {vp m va : Value} (h : Sl H 2 vp 1 [m, va]) : pIdx 2 vp (.int .i64 0) H = some (ptrAt vp 0, H) ∧ pLd (some 2) (ptrAt vp 0) H = some (.agg #[m, va], H) := by
  refine ⟨by have := pIdx_ok h .i64 0 0 rfl (by omega); simpa using this, ?_⟩
  obtain ⟨B, o, c, blk, rfl, h1, h2, h3, h4, h5, h6⟩ := h.live (by omega)
  show ((H.get B).bind fun blk => (partV blk.cells (o + 0) (some 2)).map fun v => (v, H)) = _
  rw [h2]
  have hle : Nat.ble (o + 0 + 2) blk.cells.length = true := by rw [Nat.ble_eq]; omega
  have e : ((blk.cells.drop o).take 2) = [m, va] := by simpa using h6
  simp only [Option.bind_some, partV, hle, cond_true, Nat.add_zero, e, Option.map_some]
theorem st2 {H : AH} {B : Nat} {a b a' b' : Value} (h : H.get B = some ⟨[a, b], 1, false, false⟩) (h1 : one a' = true) (h2 : one b' = true) : pSt 2 (.pointer (some ⟨B, 0, none⟩)) (.agg #[a', b']) H = some (undef, H.set B ⟨[a', b'], 1, false, false⟩) := by
  have e : vcells (.agg #[a', b']) = [a', b'] := rfl
  unfold pSt
  simp only [h, Option.bind_some, e, List.all_cons, List.all_nil, h1, h2]
  rfl
theorem ld2_0 {H : AH} {B : Nat} {a b : Value} (h : H.get B = some ⟨[a, b], 1, false, false⟩) : pLd none (.pointer (some ⟨B, 0, none⟩)) H = some (a, H) := by unfold pLd; simp only [h]; rfl
theorem ld2_1 {H : AH} {B : Nat} {a b : Value} (h : H.get B = some ⟨[a, b], 1, false, false⟩) : pLd none (.pointer (some ⟨B, 1, none⟩)) H = some (b, H) := by unfold pLd; simp only [h]; rfl
/-- a struct of two is loaded into a box of its own -/
theorem set_ext (H : AH) (x y : Blk) : HExt H ((H.push x).set H.n y) := ⟨by show _ ≤ H.n + 1; omega, fun b hb => by rw [AH.get_set, if_neg (by omega), AH.get_push, if_neg (by omega)]⟩

theorem KeepB.keep {n0 W m : Nat} {A B : AH} (h : KeepB n0 W A B) (hm : m ≤ W) (hm2 : m ≤ n0) : Keep m A B := ⟨h.1, fun b hb => h.2 b (by omega) (by omega)⟩
end Go.Proofs.Ytejedmocjdcdgaa.D

set_option linter.unusedSimpArgs false
set_option linter.unusedVariables false
namespace Go.Proofs.Ytejedmocjdcdgaa.D
open Go Go.Det

theorem flat_neb {P : Program} {fr : Fr} {H : AH} (x y : Operand) (t t' ty : TypeId) (a b : Bool) (hu : P.underlying t = some .bool) (hx : ev fr x = some (.bool a)) (hy : ev fr y = some (.bool b)) : xop P fr H (.flat (.binOp .neq t x y ty) t') = some (.bool (!(a == b)), H) := by
  refine flat_eq ?_ ?_ rfl
  · simp [Op.operands, evFlat, hx, hy, flatD]
  · simp [execOp, flatOper, hx, hy, eqGuard, binOp, Op.equal, show Op.maxDepth = 9999 + 1 from rfl, pureRun_bind, pureRun_map, pureRun_pure, pureRun_eqb 9999 a b hu]
theorem v_neb {P : Program} {T : XTab} {fr : Fr} {H : AH} {t : TypeId} (hu : P.underlying t = some .bool) (dd : Option Nat) (x y : Operand) (t' ty : TypeId) : xval P (xc P T) ⟨dd, .flat (.binOp .neq t x y ty) t', none⟩ fr H =
    altBB (ev fr x) (ev fr y) (fun a b => some (.bool (!(a == b)), H)) (xop P fr H (.flat (.binOp .neq t x y ty) t')) := by
  rw [xval_op dd _ fr H rfl]
  unfold altBB
  split
  · rename_i a b h1 h2; exact flat_neb x y t t' ty a b hu h1 h2
  · rfl

/-! ### the bits of lengths -/
def Boos (H : AH) (v : Value) (l : List Bool) : Prop := Sl H 1 v l.length (l.map .bool)
def OwnO (n0 : Nat) (H : AH) (v : Value) (l : List Bool) : Prop := Own n0 1 H v l.length (l.map .bool)
theorem boos_idx {H : AH} {s : Value} {l : List Bool} (h : Boos H s l) (i : Int) (k : Nat) (hi : i = (k : Int)) (hk : k < l.length) : pIdx 1 s (.int .i64 i) H = some (ptrAt s k, H) := pIdx_one h .i64 i k hi hk
theorem boos_ld {H : AH} {s : Value} {l : List Bool} (h : Boos H s l) (k : Nat) (a : Bool) (ha : l[k]? = some a) : pLd none (ptrAt s k) H = some (.bool a, H) := pLd_one h k _ (by simp [ha])
theorem boos_len {H : AH} {s : Value} {l : List Bool} (hs : Boos H s l) : pLen s H = some (.int .i64 (l.length : Int), H) := pLen_ok hs
def dataL (p : Nat) (q : List Bool) (n : Nat) : List Bool := (List.range n).map fun i => decide (2 * i + 1 < p) && q.getD (2 * i + 1) false
def clockL (p : Nat) (q : List Bool) (n : Nat) : List Bool := (List.range n).map fun i => decide (2 * i < p) && q.getD (2 * i) false
theorem dataL_len (p : Nat) (q : List Bool) (n : Nat) : (dataL p q n).length = n := by simp [dataL]
theorem clockL_len (p : Nat) (q : List Bool) (n : Nat) : (clockL p q n).length = n := by simp [clockL]
theorem dataL_get (p : Nat) (q : List Bool) (n i : Nat) (hi : i < n) : (dataL p q n)[i]? = some (decide (2 * i + 1 < p) && q.getD (2 * i + 1) false) := by simp [dataL, hi]
theorem clockL_get (p : Nat) (q : List Bool) (n i : Nat) (hi : i < n) : (clockL p q n)[i]? = some (decide (2 * i < p) && q.getD (2 * i) false) := by simp [clockL, hi]
theorem dataL_none (p : Nat) (q : List Bool) (n i : Nat) (hi : n ≤ i) : (dataL p q n)[i]? = none := List.getElem?_eq_none (by rw [dataL_len]; exact hi)
theorem clockL_none (p : Nat) (q : List Bool) (n i : Nat) (hi : n ≤ i) : (clockL p q n)[i]? = none := List.getElem?_eq_none (by rw [clockL_len]; exact hi)
theorem step_even (q : List Bool) (n p g : Nat) (hg : 1 ≤ g) (h1 : ∀ j, p ≤ j → j < p + g - 1 → q.getD j false = false) (h2 : q.getD (p + g - 1) false = true) (hn : p + g ≤ 2 * n) (he : (p + g) % 2 = 0) :
    dataL (p + g) q n = (dataL p q n).set ((p + g) / 2 - 1) true ∧ clockL (p + g) q n = clockL p q n := by
  constructor
  · apply List.ext_getElem?
    intro i
    rcases Nat.lt_or_ge i n with hi | hi
    · rw [dataL_get _ _ _ _ hi]
      by_cases hk : (p + g) / 2 - 1 = i
      · subst hk
        rw [List.getElem?_set_self (by rw [dataL_len]; exact hi)]
        have e : 2 * ((p + g) / 2 - 1) + 1 = p + g - 1 := by omega
        rw [e, h2]
        have : p + g - 1 < p + g := by omega
        simp [this]
      · rw [List.getElem?_set_ne hk, dataL_get _ _ _ _ hi]
        by_cases c1 : 2 * i + 1 < p
        · have c2 : 2 * i + 1 < p + g := by omega
          simp [c1, c2]
        · by_cases c2 : 2 * i + 1 < p + g
          · rw [h1 (2 * i + 1) (by omega) (by omega)]; simp
          · simp [c1, c2]
    · rw [dataL_none _ _ _ _ hi, List.getElem?_eq_none (by simp [dataL_len]; exact hi)]
  · apply List.ext_getElem?
    intro i
    rcases Nat.lt_or_ge i n with hi | hi
    · rw [clockL_get _ _ _ _ hi, clockL_get _ _ _ _ hi]
      by_cases c1 : 2 * i < p
      · have c2 : 2 * i < p + g := by omega
        simp [c1, c2]
      · by_cases c2 : 2 * i < p + g
        · rw [h1 (2 * i) (by omega) (by omega)]; simp
        · simp [c1, c2]
    · rw [clockL_none _ _ _ _ hi, clockL_none _ _ _ _ hi]
theorem step_odd (q : List Bool) (n p g : Nat) (hg : 1 ≤ g) (h1 : ∀ j, p ≤ j → j < p + g - 1 → q.getD j false = false) (h2 : q.getD (p + g - 1) false = true) (hn : p + g ≤ 2 * n) (he : ¬ (p + g) % 2 = 0) :
    clockL (p + g) q n = (clockL p q n).set ((p + g) / 2) true ∧ dataL (p + g) q n = dataL p q n := by
  constructor
  · apply List.ext_getElem?
    intro i
    rcases Nat.lt_or_ge i n with hi | hi
    · rw [clockL_get _ _ _ _ hi]
      by_cases hk : (p + g) / 2 = i
      · subst hk
        rw [List.getElem?_set_self (by rw [clockL_len]; exact hi)]
        have e : 2 * ((p + g) / 2) = p + g - 1 := by omega
        rw [e, h2]
        have : p + g - 1 < p + g := by omega
        simp [this]
      · rw [List.getElem?_set_ne hk, clockL_get _ _ _ _ hi]
        by_cases c1 : 2 * i < p
        · have c2 : 2 * i < p + g := by omega
          simp [c1, c2]
        · by_cases c2 : 2 * i < p + g
          · rw [h1 (2 * i) (by omega) (by omega)]; simp
          · simp [c1, c2]
    · rw [clockL_none _ _ _ _ hi, List.getElem?_eq_none (by simp [clockL_len]; exact hi)]
  · apply List.ext_getElem?
    intro i
    rcases Nat.lt_or_ge i n with hi | hi
    · rw [dataL_get _ _ _ _ hi, dataL_get _ _ _ _ hi]
      by_cases c1 : 2 * i + 1 < p
      · have c2 : 2 * i + 1 < p + g := by omega
        simp [c1, c2]
      · by_cases c2 : 2 * i + 1 < p + g
        · rw [h1 (2 * i + 1) (by omega) (by omega)]; simp
        · simp [c1, c2]
    · rw [dataL_none _ _ _ _ hi, dataL_none _ _ _ _ hi]

theorem expand_len (l : List Int) (h : ∀ g ∈ l, 1 ≤ g) : ((expand l).length : Int) = l.sum := by
  induction l with
  | nil => rfl
  | cons g l ih =>
    have hg := h g (by simp)
    have := ih (fun x hx => h x (by simp [hx]))
    simp only [expand, List.length_append, List.length_replicate, List.length_cons, List.sum_cons]
    omega
theorem sum_nonneg (l : List Int) (h : ∀ g ∈ l, 1 ≤ g) : 0 ≤ l.sum := by
  induction l with
  | nil => simp
  | cons g l ih =>
    have hg := h g (by simp)
    have := ih (fun x hx => h x (by simp [hx]))
    rw [List.sum_cons]; omega

theorem OwnO.set' {n0 : Nat} {H : AH} {v : Value} {l : List Bool} {k : Nat} {Q : Value → AH → Prop} (ho : OwnO n0 H v l) (hk : k < l.length) (hq : ∀ H', OwnO n0 H' v (l.set k true) → Stp v H v H' → Q undef H') : Got (pSt 1 (ptrAt v k) (.bool true) H) Q := by
  refine pSt_own ho (by simpa using hk) rfl rfl ?_
  intro H' o s
  refine hq H' ?_ s
  unfold OwnO
  rw [List.length_set, List.map_set]
  exact o

end Go.Proofs.Ytejedmocjdcdgaa.D

set_option linter.unusedSimpArgs false
set_option linter.unusedVariables false
namespace Go.Proofs.Ytejedmocjdcdgaa.D
open Go Go.Det

/-- the bit ahead of bit k of a byte -/
def lastAt (c : Nat) (last0 : Bool) (k : Nat) : Bool := if k = 0 then last0 else c.testBit (8 - k)

end Go.Proofs.Ytejedmocjdcdgaa.D

set_option linter.unusedSimpArgs false
set_option linter.unusedVariables false
namespace Go.Proofs.Ytejedmocjdcdgaa.D
open Go Go.Det

def pB2 (z0 : Value) (v : Value) (H : AH) : Option (Value × AH) :=
  match vcells v with
  | [u] => bif one u then some (.agg #[z0, u], H) else none
  | _ => none
theorem v_b2 {P : Program} {T : XTab} (fr : Fr) (H : AH) (dd : Option Nat) (x : Operand) (z0 z1 : Value) : xval P (xc P T) ⟨dd, .build [z0, z1] [(1, 1, x)], none⟩ fr H = (ev fr x).bind fun v => pB2 z0 v H := by
  rw [xval_op dd _ fr H rfl, e_build]
  rcases hx : ev fr x with _ | v
  · simp [xfill, hx]
  · simp only [Option.bind_some, pB2, xfill, hx]
    rcases vcells v with _ | ⟨u, _ | ⟨u2, r⟩⟩
    · rfl
    · cases h : one u
      · simp [h]
      · simp [h, splice, show Nat.ble 2 2 = true from rfl]
    · have hb : (u :: u2 :: r).length.beq 1 = false := by rw [Tr.beq_eq]; simp
      simp only [hb, Bool.false_and, cond_false]
      rfl
theorem pB2_sl (z0 : Value) (p : Option Addr) (l c : Nat) (H : AH) : pB2 z0 (.slice p l c) H = some (.agg #[z0, .slice p l c], H) := rfl
theorem pB2_of (z0 v : Value) (H : AH) (h1 : one v = true) (h2 : vcells v = [v]) : pB2 z0 v H = some (.agg #[z0, v], H) := by unfold pB2; rw [h2]; simp only [h1, cond_true]
def pS2 (v : Value) (H : AH) : Option (Value × AH) :=
  match vcells v with
  | [a, b] => bif one a && one b then some (.slice (some ⟨H.n, 0, none⟩) 1 1, H.push ⟨[a, b], 2, false, false⟩) else none
  | _ => none
theorem v_bs21 {P : Program} {T : XTab} (fr : Fr) (H : AH) (dd : Option Nat) (e : TypeId) (x : Operand) (z0 z1 : Value) : xval P (xc P T) ⟨dd, .bslice e 2 1 [z0, z1] [(0, x)], none⟩ fr H = (ev fr x).bind fun v => pS2 v H := by
  rw [xval_op dd _ fr H rfl, e_bslice]
  rcases hx : ev fr x with _ | v
  · simp [xfill, hx]
  · simp only [List.map_cons, List.map_nil, rep, List.append_nil, Option.bind_some, pS2, xfill, hx]
    rcases vcells v with _ | ⟨a, _ | ⟨b, _ | ⟨d, r⟩⟩⟩
    · rfl
    · have hb : [a].length.beq 2 = false := by rw [Tr.beq_eq]; simp
      simp only [hb, Bool.false_and, cond_false]
      rfl
    · cases h : one a <;> cases h2 : one b <;> simp [h, h2, splice, show Nat.ble 2 2 = true from rfl, show (2 : Nat).beq 2 = true from rfl]
    · have hb : (a :: b :: d :: r).length.beq 2 = false := by rw [Tr.beq_eq]; simp
      simp only [hb, Bool.false_and, cond_false]
      rfl
theorem pS2_of (m : Bool) (v : Value) (H : AH) (h1 : one v = true) : pS2 (.agg #[.bool m, v]) H = some (.slice (some ⟨H.n, 0, none⟩) 1 1, H.push ⟨[.bool m, v], 2, false, false⟩) := by
  have e : vcells (.agg #[.bool m, v]) = [.bool m, v] := rfl
  unfold pS2; rw [e]; simp only [h1, show one (.bool m) = true from rfl, Bool.true_and, cond_true]
theorem pS2_sl (m : Bool) (p : Option Addr) (l c : Nat) (H : AH) : pS2 (.agg #[.bool m, .slice p l c]) H = some (.slice (some ⟨H.n, 0, none⟩) 1 1, H.push ⟨[.bool m, .slice p l c], 2, false, false⟩) := rfl

/-! ### what a byte's places hold -/
theorem msym_get (c : Nat) (m : Bool) (r : Nat) : ∀ (last : Bool) (k : Nat), k < r → (msym c m r last)[2 * k + 1]? = some (c.testBit (r - 1 - k)) ∧ (msym c m r last)[2 * k]? = some (!(c.testBit (r - 1 - k)) && !(if k = 0 then last else c.testBit (r - k)) && !(m && decide (r - 1 - k = 2))) := by
  induction r with
  | zero => intro last k hk; omega
  | succ r ih =>
    intro last k hk
    cases k with
    | zero => simp [msym]
    | succ k =>
      have := ih (c.testBit r) k (by omega)
      have e1 : 2 * (k + 1) + 1 = 2 * k + 1 + 1 + 1 := by omega
      have e2 : 2 * (k + 1) = 2 * k + 1 + 1 := by omega
      have e3 : r + 1 - 1 - (k + 1) = r - 1 - k := by omega
      have e4 : r + 1 - (k + 1) = r - k := by omega
      rw [e1, e3, e4, e2]
      simp only [msym, List.getElem?_cons_succ]
      refine ⟨this.1, ?_⟩
      rw [this.2]
      by_cases hk0 : k = 0
      · subst hk0; simp
      · simp [hk0]

/-- at most one part -/
def OutS (n0 : Nat) (H : AH) (vo : Value) (m : Bool) (bs : List Int) : Prop :=
  (vo = .slice none 0 0 ∧ m = false ∧ bs = []) ∨ ∃ vb, Own n0 2 H vo 1 [.bool m, vb] ∧ OwnB n0 H vb bs ∧ ∀ b, inB vb b → ¬ inB vo b

theorem first_part (n0 : Nat) (H : AH) (m : Bool) (vb : Value) (bs : List Int) (hn : n0 ≤ H.n) (hb : OwnB n0 H vb bs) (Q : Value → AH → Prop) (hq : ∀ vo H', OutS n0 H' vo m bs → Keep n0 H H' → Q vo H') :
    Got (xapp (H.push ⟨[.bool m, vb], 2, false, false⟩) 2 32 (.slice none 0 0) (.slice (some ⟨H.n, 0, none⟩) 1 1)) Q := by
  obtain ⟨s1, s2⟩ := sl_slice hb.1
  have on : Own n0 2 (H.push ⟨[.bool m, vb], 2, false, false⟩) (.slice none 0 0) 0 [] := Own.nil _ _ _
  have ob2 : OwnB n0 (H.push ⟨[.bool m, vb], 2, false, false⟩) vb bs := Own.ext (hext_push _ _) hb
  refine xapp_own on (by simp; omega) (Sl.pushed H [.bool m, vb] 2 1 false false rfl) (by simp [s1, show one (.bool m) = true from rfl]) (by omega) (by omega) (by omega) ?_
  intro vo H' o st
  have hx : HExt (H.push ⟨[.bool m, vb], 2, false, false⟩) H' := ⟨st.n, fun b hb => st.get b hb fun ⟨o, l, c, e⟩ => by cases e⟩
  refine hq vo H' (.inr ⟨vb, by simpa using o, Own.ext hx ob2, fun b hbv hv => ?_⟩) (Keep.trans (HExt.keep (hext_push H _) hn) (HExt.keep hx (by simp; omega)))
  rcases st.new b hv with h | h
  · obtain ⟨o, l, c, e⟩ := h; cases e
  · have := Sl.lt ob2.1 hbv; omega

end Go.Proofs.Ytejedmocjdcdgaa.D

set_option linter.unusedSimpArgs false
set_option linter.unusedVariables false
namespace Go.Proofs.Ytejedmocjdcdgaa.D
open Go Go.Det

theorem Rdr.same {R : Nat} {H H' : AH} {vt : Value} {w : List Int} {pos : Nat} {u : Int} (h : Rdr R H vt w pos u) (hn : H.n ≤ H'.n) (hR : H'.get R = H.get R) (hv : ∀ b, inB vt b → H'.get b = H.get b) : Rdr R H' vt w pos u := ⟨hR.trans h.1, Nat.lt_of_lt_of_le h.2.1 hn, Sl.same h.2.2.1 hn hv, h.2.2.2⟩
theorem Rdr.ext {R : Nat} {H H' : AH} {vt : Value} {w : List Int} {pos : Nat} {u : Int} (h : Rdr R H vt w pos u) (x : HExt H H') : Rdr R H' vt w pos u := h.same x.1 (x.2 R h.2.1) fun b hb => x.2 b (Sl.lt h.2.2.1 hb)
theorem blk_l0 (s : Value) (p0 p2 : Value) (H : AH) (rest : List Int) : ∀ (pre : List Int) (x : Int) (i N : Int) (Q : XExit → Fr → AH → Prop), Ints H s (pre ++ rest) → (∀ y ∈ rest, 0 ≤ y ∧ y ≤ 100000) → 0 ≤ x → x + 100000 * (rest.length : Int) ≤ 1000000000 → i = (pre.length : Int) → N = ((pre ++ rest).length : Int) → pre.length + rest.length ≤ 1000 →
    Q (.exit 0) [(0, p0), (2, p2), (4, .int .i64 (x + rest.sum)), (38, s), (39, .int .i64 N), (40, .int .i64 N), (41, .bool false)] H →
    Run Try.prog tab (.loop xtape_reader_block_l0) [(0, p0), (2, p2), (4, .int .i64 x), (38, s), (39, .int .i64 N), (40, .int .i64 i)] H Q := by
  induction rest with
  | nil =>
    intro pre x i N Q hs hb hx hx2 hi hN hl hq
    rw [run_loop]
    generalize hL : XCode.loop xtape_reader_block_l0 = L
    have hiN : i = N := by simp at hN; omega
    subst hiN
    have hf : ¬ i < i := by omega
    simp only [xtape_reader_block_l0, ofArgs, run_seq, run_block, run_ops, run_skip, run_exit, run_ret, thenQ_normal, thenQ_exit, thenQ_ret, blockQ_normal, blockQ_exit, blockQ_ret, retQ_ret, retQ_normal, ops_nil, ops_none, got_some, ops_wT, ops_wTn, ops_wF, ops_wFn, ops_wU, dops_wT, dops_wTn, dops_wF, dops_wFn, dops_wU, run_condT, run_condF, alt2_int, altB_bool, altI_int, altBB_bool, v_min, v_max, v_not, v_neg, optEv_none, optEv_some, isSome'_none, isSome'_some, pExt0, pExt1, pExt2, Bool.false_and, Bool.true_and, Bool.not_true, Bool.not_false, cond_true, cond_false, dops_nil, dops_none, xval_call, v_mov, v_bin, v_len, v_ext, v_idxA, v_ld, v_st, v_app, v_appN, v_cvs, v_bs1, pBs1, v_slc, v_conv, v_fld, v_fldA, v_new, v_box, v_mks, v_copy, v_isnil, v_nilck, v_pick, ev, evs_nil, evs_cons, fr_get_cons, fr_put_nil, fr_put_cons, fr_put_some, fr_put_none, fr_keep_nil, fr_keep_cons, fr_has_nil, fr_has_cons, Option.bind_some, Option.map_some, xbin, ibin, xresult_eq, xress_nil, xress_tmp, resV, ex_some, if_true, if_false, ite_true, ite_false, reduceIte, reduceCtorEq, Nat.reduceEqDiff, Nat.reduceLT, Nat.reduceLeDiff, Int.reduceLT, Int.reduceLE, Nat.zero_add, Nat.reduceAdd, Bool.false_eq_true, decide_eq_true_eq, decide_eq_false_iff_not, true_implies, false_implies, and_true, true_and, hf, decide_false]
    simpa using hq
  | cons a rest ih =>
    intro pre x i N Q hs hb hx hx2 hi hN hl hq
    rw [run_loop]
    generalize hL : XCode.loop xtape_reader_block_l0 = L
    simp only [List.length_cons] at hx2 hl
    have hlt : i < N := by simp at hN; omega
    have ha := hb a (by simp)
    have e1 := ints_idx hs i pre.length hi (by simp)
    have e2 := ints_ld hs pre.length a (by simp)
    have e3 := wrI (x + a) (by omega) (by omega)
    have e4 := wrI (i + 1) (by omega) (by omega)
    simp only [xtape_reader_block_l0, ofArgs, run_seq, run_block, run_ops, run_skip, run_exit, run_ret, thenQ_normal, thenQ_exit, thenQ_ret, blockQ_normal, blockQ_exit, blockQ_ret, retQ_ret, retQ_normal, ops_nil, ops_none, got_some, ops_wT, ops_wTn, ops_wF, ops_wFn, ops_wU, dops_wT, dops_wTn, dops_wF, dops_wFn, dops_wU, run_condT, run_condF, alt2_int, altB_bool, altI_int, altBB_bool, v_min, v_max, v_not, v_neg, optEv_none, optEv_some, isSome'_none, isSome'_some, pExt0, pExt1, pExt2, Bool.false_and, Bool.true_and, Bool.not_true, Bool.not_false, cond_true, cond_false, dops_nil, dops_none, xval_call, v_mov, v_bin, v_len, v_ext, v_idxA, v_ld, v_st, v_app, v_appN, v_cvs, v_bs1, pBs1, v_slc, v_conv, v_fld, v_fldA, v_new, v_box, v_mks, v_copy, v_isnil, v_nilck, v_pick, ev, evs_nil, evs_cons, fr_get_cons, fr_put_nil, fr_put_cons, fr_put_some, fr_put_none, fr_keep_nil, fr_keep_cons, fr_has_nil, fr_has_cons, Option.bind_some, Option.map_some, xbin, ibin, xresult_eq, xress_nil, xress_tmp, resV, ex_some, if_true, if_false, ite_true, ite_false, reduceIte, reduceCtorEq, Nat.reduceEqDiff, Nat.reduceLT, Nat.reduceLeDiff, Int.reduceLT, Int.reduceLE, Nat.zero_add, Nat.reduceAdd, Bool.false_eq_true, decide_eq_true_eq, decide_eq_false_iff_not, true_implies, false_implies, and_true, true_and, hlt, decide_true, e1, e2, e3, e4]
    subst hL
    refine ih (pre ++ [a]) (x + a) (i + 1) N Q (Ints.app1 hs) (fun y hy => hb y (by simp [hy])) (by omega) (by omega) (by simp; omega) (by simpa using hN) (by simp; omega) ?_
    rw [List.sum_cons, ← Int.add_assoc] at hq
    exact hq
theorem blk_l1 (R : Nat) (vt p2 : Value) (w : List Int) (u : Int) (hu : 1 ≤ u) (hu2 : u ≤ 1000) (hw : w.length ≤ 40000) (r : Nat) : ∀ (pos : Nat) (H : AH) (i : Int) (Q : XExit → Fr → AH → Prop), Rdr R H vt w pos u → At u w pos (List.replicate r 8) → i + r = 16 → 0 ≤ i →
    (∀ H', Rdr R H' vt w (pos + r) u → Rd R H H' → Q (.exit 2) [(0, .pointer (some ⟨R, 0, none⟩)), (2, p2), (68, .int .i64 16), (69, .bool false)] H') →
    Run Try.prog tab (.loop xtape_reader_block_l1) [(0, .pointer (some ⟨R, 0, none⟩)), (2, p2), (68, .int .i64 i)] H Q := by
  induction r with
  | zero =>
    intro pos H i Q hr ha hi hi0 hq
    rw [run_loop]
    generalize hL : XCode.loop xtape_reader_block_l1 = L
    have hi8 : i = 16 := by omega
    subst hi8
    simp only [xtape_reader_block_l1, ofArgs, run_seq, run_block, run_ops, run_skip, run_exit, run_ret, thenQ_normal, thenQ_exit, thenQ_ret, blockQ_normal, blockQ_exit, blockQ_ret, retQ_ret, retQ_normal, ops_nil, ops_none, got_some, ops_wT, ops_wTn, ops_wF, ops_wFn, ops_wU, dops_wT, dops_wTn, dops_wF, dops_wFn, dops_wU, run_condT, run_condF, alt2_int, altB_bool, altI_int, altBB_bool, v_min, v_max, v_not, v_neg, optEv_none, optEv_some, isSome'_none, isSome'_some, pExt0, pExt1, pExt2, Bool.false_and, Bool.true_and, Bool.not_true, Bool.not_false, cond_true, cond_false, dops_nil, dops_none, xval_call, v_mov, v_bin, v_len, v_ext, v_idxA, v_ld, v_st, v_app, v_appN, v_cvs, v_bs1, pBs1, v_slc, v_conv, v_fld, v_fldA, v_new, v_box, v_mks, v_copy, v_isnil, v_nilck, v_pick, ev, evs_nil, evs_cons, fr_get_cons, fr_put_nil, fr_put_cons, fr_put_some, fr_put_none, fr_keep_nil, fr_keep_cons, fr_has_nil, fr_has_cons, Option.bind_some, Option.map_some, xbin, ibin, xresult_eq, xress_nil, xress_tmp, resV, ex_some, if_true, if_false, ite_true, ite_false, reduceIte, reduceCtorEq, Nat.reduceEqDiff, Nat.reduceLT, Nat.reduceLeDiff, Int.reduceLT, Int.reduceLE, Nat.zero_add, Nat.reduceAdd, Bool.false_eq_true, decide_eq_true_eq, decide_eq_false_iff_not, true_implies, false_implies, and_true, true_and, Int.lt_irrefl, decide_false]
    exact hq H hr (.refl _ _)
  | succ r ih =>
    intro pos H i Q hr ha hi hi0 hq
    rw [run_loop]
    generalize hL : XCode.loop xtape_reader_block_l1 = L
    have hlt : i < 16 := by omega
    rw [List.replicate_succ] at ha
    obtain ⟨⟨p, hp, hp1, hpc⟩, ha2⟩ := ha.head
    have w3 := wrI (i + 1) (by omega) (by omega)
    simp only [xtape_reader_block_l1, ofArgs, run_seq, run_block, run_ops, run_skip, run_exit, run_ret, thenQ_normal, thenQ_exit, thenQ_ret, blockQ_normal, blockQ_exit, blockQ_ret, retQ_ret, retQ_normal, ops_nil, ops_none, got_some, ops_wT, ops_wTn, ops_wF, ops_wFn, ops_wU, dops_wT, dops_wTn, dops_wF, dops_wFn, dops_wU, run_condT, run_condF, alt2_int, altB_bool, altI_int, altBB_bool, v_min, v_max, v_not, v_neg, optEv_none, optEv_some, isSome'_none, isSome'_some, pExt0, pExt1, pExt2, Bool.false_and, Bool.true_and, Bool.not_true, Bool.not_false, cond_true, cond_false, dops_nil, dops_none, xval_call, v_mov, v_bin, v_len, v_ext, v_idxA, v_ld, v_st, v_app, v_appN, v_cvs, v_bs1, pBs1, v_slc, v_conv, v_fld, v_fldA, v_new, v_box, v_mks, v_copy, v_isnil, v_nilck, v_pick, ev, evs_nil, evs_cons, fr_get_cons, fr_put_nil, fr_put_cons, fr_put_some, fr_put_none, fr_keep_nil, fr_keep_cons, fr_has_nil, fr_has_cons, Option.bind_some, Option.map_some, xbin, ibin, xresult_eq, xress_nil, xress_tmp, resV, ex_some, if_true, if_false, ite_true, ite_false, reduceIte, reduceCtorEq, Nat.reduceEqDiff, Nat.reduceLT, Nat.reduceLeDiff, Int.reduceLT, Int.reduceLE, Nat.zero_add, Nat.reduceAdd, Bool.false_eq_true, decide_eq_true_eq, decide_eq_false_iff_not, true_implies, false_implies, and_true, true_and, hlt, decide_true]
    refine pulse_ok R H vt w pos u p hr hu hu2 hp hp1 hw _ ?_
    intro H1 r1 k1
    rw [hpc]
    have i88 := is_xc 8 8 (by decide) (by decide) (by decide) (by decide) H1
    rw [show (decide ((4 : Int) * 8 ≥ 3 * 8) && decide ((4 : Int) * 8 ≤ 5 * 8)) = true from rfl] at i88
    simp only [ofArgs, run_seq, run_block, run_ops, run_skip, run_exit, run_ret, thenQ_normal, thenQ_exit, thenQ_ret, blockQ_normal, blockQ_exit, blockQ_ret, retQ_ret, retQ_normal, ops_nil, ops_none, got_some, ops_wT, ops_wTn, ops_wF, ops_wFn, ops_wU, dops_wT, dops_wTn, dops_wF, dops_wFn, dops_wU, run_condT, run_condF, alt2_int, altB_bool, altI_int, altBB_bool, v_min, v_max, v_not, v_neg, optEv_none, optEv_some, isSome'_none, isSome'_some, pExt0, pExt1, pExt2, Bool.false_and, Bool.true_and, Bool.not_true, Bool.not_false, cond_true, cond_false, dops_nil, dops_none, xval_call, v_mov, v_bin, v_len, v_ext, v_idxA, v_ld, v_st, v_app, v_appN, v_cvs, v_bs1, pBs1, v_slc, v_conv, v_fld, v_fldA, v_new, v_box, v_mks, v_copy, v_isnil, v_nilck, v_pick, ev, evs_nil, evs_cons, fr_get_cons, fr_put_nil, fr_put_cons, fr_put_some, fr_put_none, fr_keep_nil, fr_keep_cons, fr_has_nil, fr_has_cons, Option.bind_some, Option.map_some, xbin, ibin, xresult_eq, xress_nil, xress_tmp, resV, ex_some, if_true, if_false, ite_true, ite_false, reduceIte, reduceCtorEq, Nat.reduceEqDiff, Nat.reduceLT, Nat.reduceLeDiff, Int.reduceLT, Int.reduceLE, Nat.zero_add, Nat.reduceAdd, Bool.false_eq_true, decide_eq_true_eq, decide_eq_false_iff_not, true_implies, false_implies, and_true, true_and, i88, w3]
    subst hL
    refine ih (pos + 1) H1 (i + 1) Q r1 ha2 (by omega) (by omega) ?_
    intro H2 r2 k2
    rw [show pos + 1 + r = pos + (r + 1) by omega] at r2
    exact hq H2 r2 (k1.trans k2)
set_option maxHeartbeats 4000000 in
/-- the bytes of a block -/
theorem blk_l2 (n0 R : Nat) (hRn : R < n0) (vt p2 : Value) (hvt : ∀ b, inB vt b → b < n0) (w : List Int) (u : Int) (hu : 1 ≤ u) (hu2 : u ≤ 1000) (hw : w.length ≤ 40000) (bs : List Int) (hbs : bs.length ≤ 100) (h8 : B8 (hdU bs)) (rest : List Int) : ∀ (pre : List Int) (pos : Nat) (vb : Value) (H : AH) (i N : Int) (Q : XExit → Fr → AH → Prop), pre ++ rest = hdU bs → Rdr R H vt w pos u → At u w pos (bytsU rest) → OwnB n0 H vb pre → n0 ≤ H.n → i = (pre.length : Int) → N = (if pre.length ≤ 1 then 3 else ((bs.length + 3 : Nat) : Int)) →
    (∀ H' vb' N', Rdr R H' vt w (pos + 16 * rest.length) u → OwnB n0 H' vb' (hdU bs) → H.n ≤ H'.n → (∀ b, b < n0 → b ≠ R → H'.get b = H.get b) → Q (.exit 4) [(0, .pointer (some ⟨R, 0, none⟩)), (2, p2), (7, vb'), (8, .int .i64 ((bs.length + 3 : Nat) : Int)), (9, .int .i64 N'), (83, .bool false)] H') →
    Run Try.prog tab (.loop xtape_reader_block_l2) [(0, .pointer (some ⟨R, 0, none⟩)), (2, p2), (7, vb), (8, .int .i64 i), (9, .int .i64 N)] H Q := by
  induction rest with
  | nil =>
    intro pre pos vb H i N Q hpr hr ha ho hn hi hN hq
    rw [run_loop]
    generalize hL : XCode.loop xtape_reader_block_l2 = L
    rw [List.append_nil] at hpr
    subst hpr
    have hl := hdU_len bs
    rw [if_neg (by omega)] at hN
    rw [hl] at hi
    have hf : ¬ i < N := by omega
    simp only [xtape_reader_block_l2, ofArgs, run_seq, run_block, run_ops, run_skip, run_exit, run_ret, thenQ_normal, thenQ_exit, thenQ_ret, blockQ_normal, blockQ_exit, blockQ_ret, retQ_ret, retQ_normal, ops_nil, ops_none, got_some, ops_wT, ops_wTn, ops_wF, ops_wFn, ops_wU, dops_wT, dops_wTn, dops_wF, dops_wFn, dops_wU, run_condT, run_condF, alt2_int, altB_bool, altI_int, altBB_bool, v_min, v_max, v_not, v_neg, optEv_none, optEv_some, isSome'_none, isSome'_some, pExt0, pExt1, pExt2, Bool.false_and, Bool.true_and, Bool.not_true, Bool.not_false, cond_true, cond_false, dops_nil, dops_none, xval_call, v_mov, v_bin, v_len, v_ext, v_idxA, v_ld, v_st, v_app, v_appN, v_cvs, v_bs1, pBs1, v_slc, v_conv, v_fld, v_fldA, v_new, v_box, v_mks, v_copy, v_isnil, v_nilck, v_pick, ev, evs_nil, evs_cons, fr_get_cons, fr_put_nil, fr_put_cons, fr_put_some, fr_put_none, fr_keep_nil, fr_keep_cons, fr_has_nil, fr_has_cons, Option.bind_some, Option.map_some, xbin, ibin, xresult_eq, xress_nil, xress_tmp, resV, ex_some, if_true, if_false, ite_true, ite_false, reduceIte, reduceCtorEq, Nat.reduceEqDiff, Nat.reduceLT, Nat.reduceLeDiff, Int.reduceLT, Int.reduceLE, Nat.zero_add, Nat.reduceAdd, Bool.false_eq_true, decide_eq_true_eq, decide_eq_false_iff_not, true_implies, false_implies, and_true, true_and, hf, decide_false]
    have := hq H vb N (by simpa using hr) ho (Nat.le_refl _) (fun _ _ _ => rfl)
    rw [← hi] at this
    exact this
  | cons a rest ih =>
    intro pre pos vb H i N Q hpr hr ha ho hn hi hN hq
    rw [run_loop]
    generalize hL : XCode.loop xtape_reader_block_l2 = L
    have hl := hdU_len bs
    have hll : pre.length + 1 + rest.length = bs.length + 3 := by rw [← hl, ← hpr]; simp; omega
    have hlt : i < N := by rw [hN]; split <;> omega
    have ha8 := h8 a (by rw [← hpr]; simp)
    obtain ⟨c, rfl⟩ : ∃ c : Nat, a = (c : Int) := ⟨a.toNat, by omega⟩
    have ha' : At u w pos (bytU c 8 ++ bytsU rest) := ha
    obtain ⟨a1, a2⟩ := ha'.app
    rw [bytU_len] at a2
    have z0 : ((0 : Int) != 0) = false := rfl
    have wc := wrU8' (c : Int) (by omega) (by omega)
    have w3 := wrI (i + 1) (by omega) (by omega)
    simp only [xtape_reader_block_l2, ofArgs, run_seq, run_block, run_ops, run_skip, run_exit, run_ret, thenQ_normal, thenQ_exit, thenQ_ret, blockQ_normal, blockQ_exit, blockQ_ret, retQ_ret, retQ_normal, ops_nil, ops_none, got_some, ops_wT, ops_wTn, ops_wF, ops_wFn, ops_wU, dops_wT, dops_wTn, dops_wF, dops_wFn, dops_wU, run_condT, run_condF, alt2_int, altB_bool, altI_int, altBB_bool, v_min, v_max, v_not, v_neg, optEv_none, optEv_some, isSome'_none, isSome'_some, pExt0, pExt1, pExt2, Bool.false_and, Bool.true_and, Bool.not_true, Bool.not_false, cond_true, cond_false, dops_nil, dops_none, xval_call, v_mov, v_bin, v_len, v_ext, v_idxA, v_ld, v_st, v_app, v_appN, v_cvs, v_bs1, pBs1, v_slc, v_conv, v_fld, v_fldA, v_new, v_box, v_mks, v_copy, v_isnil, v_nilck, v_pick, ev, evs_nil, evs_cons, fr_get_cons, fr_put_nil, fr_put_cons, fr_put_some, fr_put_none, fr_keep_nil, fr_keep_cons, fr_has_nil, fr_has_cons, Option.bind_some, Option.map_some, xbin, ibin, xresult_eq, xress_nil, xress_tmp, resV, ex_some, if_true, if_false, ite_true, ite_false, reduceIte, reduceCtorEq, Nat.reduceEqDiff, Nat.reduceLT, Nat.reduceLeDiff, Int.reduceLT, Int.reduceLE, Nat.zero_add, Nat.reduceAdd, Bool.false_eq_true, decide_eq_true_eq, decide_eq_false_iff_not, true_implies, false_implies, and_true, true_and, hlt, decide_true]
    refine byte_ok R vt w u hu hu2 hw c (by omega) pos H hr a1 _ ?_
    intro H1 r1 k1
    have notvb : ∀ d, d < n0 → ¬ inB vb d := fun d hd ⟨o, l, cc, e⟩ => by have := (ho.2 d o l cc e).1; omega
    have ho1 : OwnB n0 H1 vb pre := Own.same ho (by rw [k1.1]; omega) fun b hb => k1.2 b (fun e => notvb b (by omega) hb)
    simp only [ofArgs, run_seq, run_block, run_ops, run_skip, run_exit, run_ret, thenQ_normal, thenQ_exit, thenQ_ret, blockQ_normal, blockQ_exit, blockQ_ret, retQ_ret, retQ_normal, ops_nil, ops_none, got_some, ops_wT, ops_wTn, ops_wF, ops_wFn, ops_wU, dops_wT, dops_wTn, dops_wF, dops_wFn, dops_wU, run_condT, run_condF, alt2_int, altB_bool, altI_int, altBB_bool, v_min, v_max, v_not, v_neg, optEv_none, optEv_some, isSome'_none, isSome'_some, pExt0, pExt1, pExt2, Bool.false_and, Bool.true_and, Bool.not_true, Bool.not_false, cond_true, cond_false, dops_nil, dops_none, xval_call, v_mov, v_bin, v_len, v_ext, v_idxA, v_ld, v_st, v_app, v_appN, v_cvs, v_bs1, pBs1, v_slc, v_conv, v_fld, v_fldA, v_new, v_box, v_mks, v_copy, v_isnil, v_nilck, v_pick, ev, evs_nil, evs_cons, fr_get_cons, fr_put_nil, fr_put_cons, fr_put_some, fr_put_none, fr_keep_nil, fr_keep_cons, fr_has_nil, fr_has_cons, Option.bind_some, Option.map_some, xbin, ibin, xresult_eq, xress_nil, xress_tmp, resV, ex_some, if_true, if_false, ite_true, ite_false, reduceIte, reduceCtorEq, Nat.reduceEqDiff, Nat.reduceLT, Nat.reduceLeDiff, Int.reduceLT, Int.reduceLE, Nat.zero_add, Nat.reduceAdd, Bool.false_eq_true, decide_eq_true_eq, decide_eq_false_iff_not, true_implies, false_implies, and_true, true_and, pExt0, pExt1, z0, pConv, wc]
    refine app_oneB ho1 (by rw [k1.1]; omega) (by omega) ?_
    intro vb' H2 o2 st2
    have n2 := st2.n
    have nk := k1.1
    have r2 : Rdr R H2 vt w (pos + 16) u := r1.same st2.n (st2.get R r1.2.1 (notvb R hRn)) fun b hb => st2.get b (Sl.lt r1.2.2.1 hb) (notvb b (hvt b hb))
    have k2 : ∀ b, b < n0 → b ≠ R → H2.get b = H.get b := fun b hb hbR => (st2.get b (by omega) (notvb b hb)).trans (k1.2 b hbR)
    have next : ∀ N' : Int, N' = (if (pre ++ [(c : Int)]).length ≤ 1 then 3 else ((bs.length + 3 : Nat) : Int)) → Run Try.prog tab L [(0, .pointer (some ⟨R, 0, none⟩)), (2, p2), (7, vb'), (8, .int .i64 (i + 1)), (9, .int .i64 N')] H2 Q := by
      intro N' hN'
      subst hL
      refine ih (pre ++ [(c : Int)]) (pos + 16) vb' H2 (i + 1) N' Q (by rw [← hpr]; simp) r2 a2 o2 (by omega) (by simp; omega) hN' ?_
      intro H3 vb3 N3 r3 o3 n3 k3
      rw [show pos + 16 + 16 * rest.length = pos + 16 * ((c : Int) :: rest).length by simp; omega] at r3
      exact hq H3 vb3 N3 r3 o3 (by omega) (fun b hb hbR => (k3 b hb hbR).trans (k2 b hb hbR))
    have el : (pre ++ [(c : Int)]).length = pre.length + 1 := by simp
    rw [el] at next
    by_cases h1 : pre.length = 1
    · have ci : (i == 1) = true := by simp; omega
      -- the first two bytes tell the length
      have hd : pre = [((bs.length / 256 : Nat) : Int)] ∧ (c : Int) = ((bs.length % 256 : Nat) : Int) := by
        have e := hpr
        unfold hdU at e
        cases pre with
        | nil => simp at h1
        | cons y pre =>
          have : pre = [] := by cases pre with | nil => rfl | cons => simp at h1
          subst this
          simp only [List.cons_append, List.nil_append, List.cons.injEq] at e
          exact ⟨by rw [e.1], e.2.1⟩
      obtain ⟨hp0, hc0⟩ := hd
      rw [hp0] at o2
      have e0 := byts_idx o2.1 0 0 rfl (by simp)
      have f0 := byts_ld o2.1 0 ((bs.length / 256 : Nat) : Int) rfl
      have e1 := byts_idx o2.1 1 1 rfl (by simp)
      have f1 := byts_ld o2.1 1 (c : Int) rfl
      have q0 := wrI ((bs.length / 256 : Nat) : Int) (by omega) (by omega)
      have q1 := wrI (c : Int) (by omega) (by omega)
      have m8 : min (Int.toNat 8) IntKind.i64.bits = 8 := rfl
      have n8 : ¬ (8 : Int) < 0 := by decide
      have p8 : (2 : Int) ^ 8 = 256 := rfl
      have q2 := wrI (((bs.length / 256 : Nat) : Int) * 256) (by omega) (by omega)
      have q3 := wrI (((bs.length / 256 : Nat) : Int) * 256 + (c : Int)) (by omega) (by omega)
      have q4 : IntKind.i64.wrap (((bs.length / 256 : Nat) : Int) * 256 + (c : Int) + 3) = ((bs.length + 3 : Nat) : Int) := by rw [wrI _ (by omega) (by omega)]; omega
      have c259 : ¬ ((bs.length + 3 : Nat) : Int) > 259 := by omega
      simp only [ofArgs, run_seq, run_block, run_ops, run_skip, run_exit, run_ret, thenQ_normal, thenQ_exit, thenQ_ret, blockQ_normal, blockQ_exit, blockQ_ret, retQ_ret, retQ_normal, ops_nil, ops_none, got_some, ops_wT, ops_wTn, ops_wF, ops_wFn, ops_wU, dops_wT, dops_wTn, dops_wF, dops_wFn, dops_wU, run_condT, run_condF, alt2_int, altB_bool, altI_int, altBB_bool, v_min, v_max, v_not, v_neg, optEv_none, optEv_some, isSome'_none, isSome'_some, pExt0, pExt1, pExt2, Bool.false_and, Bool.true_and, Bool.not_true, Bool.not_false, cond_true, cond_false, dops_nil, dops_none, xval_call, v_mov, v_bin, v_len, v_ext, v_idxA, v_ld, v_st, v_app, v_appN, v_cvs, v_bs1, pBs1, v_slc, v_conv, v_fld, v_fldA, v_new, v_box, v_mks, v_copy, v_isnil, v_nilck, v_pick, ev, evs_nil, evs_cons, fr_get_cons, fr_put_nil, fr_put_cons, fr_put_some, fr_put_none, fr_keep_nil, fr_keep_cons, fr_has_nil, fr_has_cons, Option.bind_some, Option.map_some, xbin, ibin, xresult_eq, xress_nil, xress_tmp, resV, ex_some, if_true, if_false, ite_true, ite_false, reduceIte, reduceCtorEq, Nat.reduceEqDiff, Nat.reduceLT, Nat.reduceLeDiff, Int.reduceLT, Int.reduceLE, Nat.zero_add, Nat.reduceAdd, Bool.false_eq_true, decide_eq_true_eq, decide_eq_false_iff_not, true_implies, false_implies, and_true, true_and, ci]
      refine run_dops _ _ _ _ _ rfl ?_
      simp only [ofArgs, run_seq, run_block, run_ops, run_skip, run_exit, run_ret, thenQ_normal, thenQ_exit, thenQ_ret, blockQ_normal, blockQ_exit, blockQ_ret, retQ_ret, retQ_normal, ops_nil, ops_none, got_some, ops_wT, ops_wTn, ops_wF, ops_wFn, ops_wU, dops_wT, dops_wTn, dops_wF, dops_wFn, dops_wU, run_condT, run_condF, alt2_int, altB_bool, altI_int, altBB_bool, v_min, v_max, v_not, v_neg, optEv_none, optEv_some, isSome'_none, isSome'_some, pExt0, pExt1, pExt2, Bool.false_and, Bool.true_and, Bool.not_true, Bool.not_false, cond_true, cond_false, dops_nil, dops_none, xval_call, v_mov, v_bin, v_len, v_ext, v_idxA, v_ld, v_st, v_app, v_appN, v_cvs, v_bs1, pBs1, v_slc, v_conv, v_fld, v_fldA, v_new, v_box, v_mks, v_copy, v_isnil, v_nilck, v_pick, ev, evs_nil, evs_cons, fr_get_cons, fr_put_nil, fr_put_cons, fr_put_some, fr_put_none, fr_keep_nil, fr_keep_cons, fr_has_nil, fr_has_cons, Option.bind_some, Option.map_some, xbin, ibin, xresult_eq, xress_nil, xress_tmp, resV, ex_some, if_true, if_false, ite_true, ite_false, reduceIte, reduceCtorEq, Nat.reduceEqDiff, Nat.reduceLT, Nat.reduceLeDiff, Int.reduceLT, Int.reduceLE, Nat.zero_add, Nat.reduceAdd, Bool.false_eq_true, decide_eq_true_eq, decide_eq_false_iff_not, true_implies, false_implies, and_true, true_and, e0, f0, e1, f1, pConv, q0, q1, m8, n8, p8, q2, q3, q4, c259, decide_false, w3]
      exact next _ (by rw [if_neg (by omega)])
    · have ci : (i == 1) = false := by simp; omega
      simp only [ofArgs, run_seq, run_block, run_ops, run_skip, run_exit, run_ret, thenQ_normal, thenQ_exit, thenQ_ret, blockQ_normal, blockQ_exit, blockQ_ret, retQ_ret, retQ_normal, ops_nil, ops_none, got_some, ops_wT, ops_wTn, ops_wF, ops_wFn, ops_wU, dops_wT, dops_wTn, dops_wF, dops_wFn, dops_wU, run_condT, run_condF, alt2_int, altB_bool, altI_int, altBB_bool, v_min, v_max, v_not, v_neg, optEv_none, optEv_some, isSome'_none, isSome'_some, pExt0, pExt1, pExt2, Bool.false_and, Bool.true_and, Bool.not_true, Bool.not_false, cond_true, cond_false, dops_nil, dops_none, xval_call, v_mov, v_bin, v_len, v_ext, v_idxA, v_ld, v_st, v_app, v_appN, v_cvs, v_bs1, pBs1, v_slc, v_conv, v_fld, v_fldA, v_new, v_box, v_mks, v_copy, v_isnil, v_nilck, v_pick, ev, evs_nil, evs_cons, fr_get_cons, fr_put_nil, fr_put_cons, fr_put_some, fr_put_none, fr_keep_nil, fr_keep_cons, fr_has_nil, fr_has_cons, Option.bind_some, Option.map_some, xbin, ibin, xresult_eq, xress_nil, xress_tmp, resV, ex_some, if_true, if_false, ite_true, ite_false, reduceIte, reduceCtorEq, Nat.reduceEqDiff, Nat.reduceLT, Nat.reduceLeDiff, Int.reduceLT, Int.reduceLE, Nat.zero_add, Nat.reduceAdd, Bool.false_eq_true, decide_eq_true_eq, decide_eq_false_iff_not, true_implies, false_implies, and_true, true_and, ci, w3]
      refine next N ?_
      rw [hN]
      by_cases h0 : pre.length ≤ 1
      · rw [if_pos h0, if_pos (by omega)]
      · rw [if_neg h0, if_neg (by omega)]
end Go.Proofs.Ytejedmocjdcdgaa.D

set_option linter.unusedSimpArgs false
set_option linter.unusedVariables false
namespace Go.Proofs.Ytejedmocjdcdgaa.D
open Go Go.Det

theorem slice_form' {H : AH} {sz n : Nat} {v : Value} {cs : List Value} (h : Sl H sz v n cs) : ∃ p l c, v = .slice p l c := by
  rcases h with ⟨rfl, _⟩ | ⟨B, o, rfl, _⟩ | ⟨B, o, c, blk, rfl, _⟩ <;> exact ⟨_, _, _, rfl⟩
theorem Rdr.setU {R : Nat} {H : AH} {vt : Value} {w : List Int} {pos : Nat} {u : Int} (h : Rdr R H vt w pos u) (u' : Int) : pSt 1 (.pointer (some ⟨R, 2, none⟩)) (.int .i64 u') H = some (undef, H.set R ⟨[vt, .int .i64 (pos : Int), .int .i64 u'], 1, false, false⟩) := st3_2 h.1 rfl rfl
def altS1 (o1 o2 : Option Value) (f : Int → Option Addr → Nat → Nat → Option (Value × AH)) (z : Option (Value × AH)) : Option (Value × AH) :=
  match o1, o2 with
  | some (.int .i64 a), some (.slice p l c) => f a p l c
  | _, _ => z
theorem altS1_val (a : Int) (p : Option Addr) (l c : Nat) (f : Int → Option Addr → Nat → Nat → Option (Value × AH)) (z : Option (Value × AH)) : altS1 (some (.int .i64 a)) (some (.slice p l c)) f z = f a p l c := rfl
theorem v_b2is {P : Program} {T : XTab} (fr : Fr) (H : AH) (dd : Option Nat) (x y : Operand) (z0 z1 : Value) : xval P (xc P T) ⟨dd, .build [z0, z1] [(0, 1, x), (1, 1, y)], none⟩ fr H =
    altS1 (ev fr x) (ev fr y) (fun a p l c => some (.agg #[.int .i64 a, .slice p l c], H)) (xop P fr H (.build [z0, z1] [(0, 1, x), (1, 1, y)])) := by
  rw [xval_op dd _ fr H rfl]
  unfold altS1
  split
  · rename_i a p l c h h2
    rw [e_build]
    simp only [xfill, h, h2]
    rfl
  · rfl
set_option maxHeartbeats 8000000 in
theorem block_ok (R : Nat) (vt : Value) (w : List Int) (hw : w.length ≤ 40000) (hwp : ∀ y ∈ w, 0 ≤ y ∧ y ≤ 100000) (u u0 : Int) (hu : 4 ≤ u) (hu2 : u ≤ 1000) (bs : List Int) (hbs : bs.length ≤ 100) (h8 : B8 bs) (pos : Nat) (H : AH) (hr : Rdr R H vt w pos u0) (ha : At u w pos (blkU bs)) (hfit : pos + (65 + 16 * bs.length) ≤ w.length)
    (hsum : Int.tdiv (2 * ((w.drop pos).take 16).sum + 128) 256 = u) (Q : Value → AH → Prop)
    (hq : ∀ H' vd, Rdr R H' vt w (pos + (65 + 16 * bs.length)) u → OwnB H.n H' vd bs → H.n ≤ H'.n → (∀ b, b < H.n → b ≠ R → H'.get b = H.get b) → Q (.tuple #[.agg #[.int .i64 u, vd], .int .i64 0]) H') :
    Got (xc Try.prog tab 72 [.pointer (some ⟨R, 0, none⟩)] H) Q := by
  refine got_call (res := [.cell 2 (some 2), .tmp 3]) rfl ?_
  have x1 := hext_push H ⟨[.int .i64 0, .slice none 0 0], 1, false, false⟩
  have n1 : (H.push ⟨[.int .i64 0, .slice none 0 0], 1, false, false⟩).n = H.n + 1 := rfl
  have gE : (H.push ⟨[.int .i64 0, .slice none 0 0], 1, false, false⟩).get H.n = some ⟨[.int .i64 0, .slice none 0 0], 1, false, false⟩ := by rw [AH.get_push, if_pos rfl]
  have r1 := hr.ext x1
  have hRn := hr.2.1
  generalize hT : ((.seq (.seq (.dops [.mk ⟨some 13, .mov (.tmp 0), none⟩ [0] 0 [], .mk ⟨some 14, .nilck (.tmp 13), none⟩ [13] 0 [], .mk ⟨some 15, .fldA 0 (.tmp 14), none⟩ [14] 0 [], .mk ⟨some 16, .ld none (.tmp 15), none⟩ [15] 1 [], .mk ⟨some 17, .len (.tmp 16), none⟩ [16] 0 [], .mk ⟨some 18, .mov (.tmp 0), none⟩ [0] 0 [], .mk ⟨some 19, .nilck (.tmp 18), none⟩ [18] 0 [], .mk ⟨some 20, .fldA 1 (.tmp 19), none⟩ [19] 0 [], .mk ⟨some 21, .ld none (.tmp 20), none⟩ [20] 1 [], .mk ⟨some 22, .bin .sub (.tmp 17) (.tmp 21), none⟩ [17, 21] 0 [], .mk ⟨some 23, .bin .lss (.tmp 22) (.const (.int .i64 17)), none⟩ [22] 0 []] [0, 2, 23]) (.cond (.tmp 23) (.seq (.ops [⟨some 24, .build [.int .i64 0, .slice none 0 0] [], none⟩, ⟨none, .st 2 (.tmp 2) (.tmp 24), none⟩, ⟨some 3, .mov (.const (.int .i64 13)), none⟩] [2, 3]) .ret) .skip)) (.seq (.ops [⟨some 4, .mov (.const (.int .i64 0)), none⟩] [0, 2, 4]) (.seq (.seq (.dops [.mk ⟨some 25, .mov (.tmp 0), none⟩ [0] 0 [], .mk ⟨some 26, .nilck (.tmp 25), none⟩ [25] 0 [], .mk ⟨some 27, .fldA 0 (.tmp 26), none⟩ [26] 0 [], .mk ⟨some 28, .ld none (.tmp 27), none⟩ [27] 1 [], .mk ⟨some 29, .mov (.tmp 0), none⟩ [0] 0 [], .mk ⟨some 30, .nilck (.tmp 29), none⟩ [29] 0 [], .mk ⟨some 31, .fldA 1 (.tmp 30), none⟩ [30] 0 [], .mk ⟨some 32, .ld none (.tmp 31), none⟩ [31] 1 [], .mk ⟨some 33, .mov (.tmp 0), none⟩ [0] 0 [], .mk ⟨some 34, .nilck (.tmp 33), none⟩ [33] 0 [], .mk ⟨some 35, .fldA 1 (.tmp 34), none⟩ [34] 0 [], .mk ⟨some 36, .ld none (.tmp 35), none⟩ [35] 1 [], .mk ⟨some 37, .bin .add (.tmp 36) (.const (.int .i64 16)), none⟩ [36] 0 [], .mk ⟨some 38, .slc 1 (.tmp 28) (some (.tmp 32)) (some (.tmp 37)) none, none⟩ [28, 32, 37] 1 [], .mk ⟨some 39, .len (.tmp 38), none⟩ [38] 0 [], .mk ⟨some 40, .mov (.const (.int .i64 0)), none⟩ [] 0 []] [0, 2, 4, 38, 39, 40]) (.block 0 (.loop xtape_reader_block_l0))) (.seq (.seq (.ops [⟨some 48, .mov (.tmp 0), none⟩, ⟨some 49, .mov (.tmp 4), none⟩, ⟨some 50, .bin .mul (.const (.int .i64 2)) (.tmp 49), none⟩, ⟨some 51, .bin .add (.tmp 50) (.const (.int .i64 128)), none⟩, ⟨some 52, .bin .quo (.tmp 51) (.const (.int .i64 256)), none⟩, ⟨some 53, .nilck (.tmp 48), none⟩, ⟨some 54, .fldA 2 (.tmp 53), none⟩, ⟨none, .st 1 (.tmp 54) (.tmp 52), none⟩] [0, 2]) (.seq (.ops [⟨some 55, .mov (.tmp 0), none⟩, ⟨some 56, .nilck (.tmp 55), none⟩, ⟨some 57, .fldA 2 (.tmp 56), none⟩, ⟨some 58, .ld none (.tmp 57), none⟩, ⟨some 59, .bin .lss (.tmp 58) (.const (.int .i64 4)), none⟩, ⟨some 60, .mov (.tmp 59), none⟩, ⟨some 61, .mov (.tmp 0), some (60, false)⟩, ⟨some 62, .nilck (.tmp 61), some (60, false)⟩, ⟨some 63, .fldA 2 (.tmp 62), some (60, false)⟩, ⟨some 64, .ld none (.tmp 63), some (60, false)⟩, ⟨some 65, .bin .gtr (.tmp 64) (.const (.int .i64 1000)), some (60, false)⟩, ⟨some 66, .pick (.tmp 60) (.const (.bool true)) (.tmp 65), none⟩] [0, 2, 66]) (.cond (.tmp 66) (.seq (.ops [⟨some 67, .build [.int .i64 0, .slice none 0 0] [], none⟩, ⟨none, .st 2 (.tmp 2) (.tmp 67), none⟩, ⟨some 3, .mov (.const (.int .i64 3)), none⟩] [2, 3]) .ret) .skip))) (.seq (.seq (.ops [⟨some 68, .mov (.const (.int .i64 0)), none⟩] [0, 2, 68]) (.block 2 (.loop xtape_reader_block_l1))) (.seq (.seq (.ops [⟨some 76, .mov (.tmp 0), none⟩, ⟨some 77, .call 115 [.tmp 76], none⟩, ⟨some 78, .call 114 [.tmp 77, .const (.int .i64 16)], none⟩, ⟨some 79, .flat (.unOp .not 4 (.tmp 78)) 4, none⟩] [0, 2, 79]) (.cond (.tmp 79) (.seq (.ops [⟨some 80, .build [.int .i64 0, .slice none 0 0] [], none⟩, ⟨none, .st 2 (.tmp 2) (.tmp 80), none⟩, ⟨some 3, .mov (.const (.int .i64 3)), none⟩] [2, 3]) .ret) .skip)) (.seq (.ops [⟨some 7, .mov (.const (.slice none 0 0)), none⟩] [0, 2, 7]) (.seq (.seq (.ops [⟨some 8, .mov (.const (.int .i64 0)), none⟩, ⟨some 9, .mov (.const (.int .i64 3)), none⟩] [0, 2, 7, 8, 9]) (.block 4 (.loop xtape_reader_block_l2))) (.seq (.ops [⟨some 116, .bslice 5 1 0 [.int .u8 0] [], none⟩, ⟨some 117, .mov (.tmp 7), none⟩, ⟨some 118, .mov (.tmp 7), none⟩, ⟨some 119, .len (.tmp 118), none⟩, ⟨some 120, .bin .sub (.tmp 119) (.const (.int .i64 1)), none⟩, ⟨some 121, .slc 1 (.tmp 117) (some (.const (.int .i64 2))) (some (.tmp 120)) none, none⟩, ⟨some 122, .app 5 1 1 [.int .u8 0] (.tmp 116) (.tmp 121), none⟩, ⟨some 12, .mov (.tmp 122), none⟩] [0, 2, 7, 12]) (.seq (.seq (.dops [.mk ⟨some 123, .mov (.tmp 12), none⟩ [12] 0 [], .mk ⟨some 124, .call 69 [.tmp 123], none⟩ [123] 2 [], .mk ⟨some 125, .mov (.tmp 7), none⟩ [7] 0 [], .mk ⟨some 126, .mov (.tmp 7), none⟩ [7] 0 [], .mk ⟨some 127, .len (.tmp 126), none⟩ [126] 0 [], .mk ⟨some 128, .bin .sub (.tmp 127) (.const (.int .i64 1)), none⟩ [127] 0 [], .mk ⟨some 129, .idxA 1 (.tmp 125) (.tmp 128), none⟩ [125, 128] 0 [], .mk ⟨some 130, .ld none (.tmp 129), none⟩ [129] 1 [0], .mk ⟨some 131, .conv .i64 (.tmp 130), none⟩ [130] 0 [], .mk ⟨some 132, .bin .neq (.tmp 124) (.tmp 131), none⟩ [124, 131] 0 []] [0, 2, 12, 132]) (.cond (.tmp 132) (.seq (.ops [⟨some 133, .build [.int .i64 0, .slice none 0 0] [], none⟩, ⟨none, .st 2 (.tmp 2) (.tmp 133), none⟩, ⟨some 3, .mov (.const (.int .i64 12)), none⟩] [2, 3]) .ret) .skip)) (.seq (.ops [⟨some 134, .mov (.tmp 0), none⟩, ⟨some 135, .nilck (.tmp 134), none⟩, ⟨some 136, .fldA 2 (.tmp 135), none⟩, ⟨some 137, .ld none (.tmp 136), none⟩, ⟨some 138, .mov (.tmp 12), none⟩, ⟨some 139, .build [.int .i64 0, .slice none 0 0] [(0, 1, .tmp 137), (1, 1, .tmp 138)], none⟩, ⟨none, .st 2 (.tmp 2) (.tmp 139), none⟩, ⟨some 3, .mov (.const (.int .i64 0)), none⟩] [2, 3]) .ret))))))))))) : XCode) = T
  simp only [ofArgs, run_seq, run_block, run_ops, run_skip, run_exit, run_ret, thenQ_normal, thenQ_exit, thenQ_ret, blockQ_normal, blockQ_exit, blockQ_ret, retQ_ret, retQ_normal, ops_nil, ops_none, got_some, ops_wT, ops_wTn, ops_wF, ops_wFn, ops_wU, dops_wT, dops_wTn, dops_wF, dops_wFn, dops_wU, run_condT, run_condF, alt2_int, altB_bool, altI_int, altBB_bool, v_min, v_max, v_not, v_neg, optEv_none, optEv_some, isSome'_none, isSome'_some, pExt0, pExt1, pExt2, Bool.false_and, Bool.true_and, Bool.not_true, Bool.not_false, cond_true, cond_false, dops_nil, dops_none, xval_call, v_mov, v_bin, v_len, v_ext, v_idxA, v_ld, v_st, v_app, v_appN, v_cvs, v_bs1, pBs1, v_slc, v_conv, v_fld, v_fldA, v_new, v_box, v_mks, v_copy, v_isnil, v_nilck, v_pick, ev, evs_nil, evs_cons, fr_get_cons, fr_put_nil, fr_put_cons, fr_put_some, fr_put_none, fr_keep_nil, fr_keep_cons, fr_has_nil, fr_has_cons, Option.bind_some, Option.map_some, xbin, ibin, xresult_eq, xress_nil, xress_tmp, resV, ex_some, if_true, if_false, ite_true, ite_false, reduceIte, reduceCtorEq, Nat.reduceEqDiff, Nat.reduceLT, Nat.reduceLeDiff, Int.reduceLT, Int.reduceLE, Nat.zero_add, Nat.reduceAdd, Bool.false_eq_true, decide_eq_true_eq, decide_eq_false_iff_not, true_implies, false_implies, and_true, true_and]
  generalize H.push ⟨[.int .i64 0, .slice none 0 0], 1, false, false⟩ = H1 at *
  subst hT
  obtain ⟨g1, _, i1, _⟩ := id r1
  have m0 := ld3_0 g1
  have m1 := ld3_1 g1
  have e0 := ints_len i1
  have w1 := wrI ((w.length : Int) - (pos : Int)) (by omega) (by omega)
  have c1 : ¬ (w.length : Int) - (pos : Int) < 17 := by omega
  generalize hT : ((.seq (.ops [⟨some 4, .mov (.const (.int .i64 0)), none⟩] [0, 2, 4]) (.seq (.seq (.dops [.mk ⟨some 25, .mov (.tmp 0), none⟩ [0] 0 [], .mk ⟨some 26, .nilck (.tmp 25), none⟩ [25] 0 [], .mk ⟨some 27, .fldA 0 (.tmp 26), none⟩ [26] 0 [], .mk ⟨some 28, .ld none (.tmp 27), none⟩ [27] 1 [], .mk ⟨some 29, .mov (.tmp 0), none⟩ [0] 0 [], .mk ⟨some 30, .nilck (.tmp 29), none⟩ [29] 0 [], .mk ⟨some 31, .fldA 1 (.tmp 30), none⟩ [30] 0 [], .mk ⟨some 32, .ld none (.tmp 31), none⟩ [31] 1 [], .mk ⟨some 33, .mov (.tmp 0), none⟩ [0] 0 [], .mk ⟨some 34, .nilck (.tmp 33), none⟩ [33] 0 [], .mk ⟨some 35, .fldA 1 (.tmp 34), none⟩ [34] 0 [], .mk ⟨some 36, .ld none (.tmp 35), none⟩ [35] 1 [], .mk ⟨some 37, .bin .add (.tmp 36) (.const (.int .i64 16)), none⟩ [36] 0 [], .mk ⟨some 38, .slc 1 (.tmp 28) (some (.tmp 32)) (some (.tmp 37)) none, none⟩ [28, 32, 37] 1 [], .mk ⟨some 39, .len (.tmp 38), none⟩ [38] 0 [], .mk ⟨some 40, .mov (.const (.int .i64 0)), none⟩ [] 0 []] [0, 2, 4, 38, 39, 40]) (.block 0 (.loop xtape_reader_block_l0))) (.seq (.seq (.ops [⟨some 48, .mov (.tmp 0), none⟩, ⟨some 49, .mov (.tmp 4), none⟩, ⟨some 50, .bin .mul (.const (.int .i64 2)) (.tmp 49), none⟩, ⟨some 51, .bin .add (.tmp 50) (.const (.int .i64 128)), none⟩, ⟨some 52, .bin .quo (.tmp 51) (.const (.int .i64 256)), none⟩, ⟨some 53, .nilck (.tmp 48), none⟩, ⟨some 54, .fldA 2 (.tmp 53), none⟩, ⟨none, .st 1 (.tmp 54) (.tmp 52), none⟩] [0, 2]) (.seq (.ops [⟨some 55, .mov (.tmp 0), none⟩, ⟨some 56, .nilck (.tmp 55), none⟩, ⟨some 57, .fldA 2 (.tmp 56), none⟩, ⟨some 58, .ld none (.tmp 57), none⟩, ⟨some 59, .bin .lss (.tmp 58) (.const (.int .i64 4)), none⟩, ⟨some 60, .mov (.tmp 59), none⟩, ⟨some 61, .mov (.tmp 0), some (60, false)⟩, ⟨some 62, .nilck (.tmp 61), some (60, false)⟩, ⟨some 63, .fldA 2 (.tmp 62), some (60, false)⟩, ⟨some 64, .ld none (.tmp 63), some (60, false)⟩, ⟨some 65, .bin .gtr (.tmp 64) (.const (.int .i64 1000)), some (60, false)⟩, ⟨some 66, .pick (.tmp 60) (.const (.bool true)) (.tmp 65), none⟩] [0, 2, 66]) (.cond (.tmp 66) (.seq (.ops [⟨some 67, .build [.int .i64 0, .slice none 0 0] [], none⟩, ⟨none, .st 2 (.tmp 2) (.tmp 67), none⟩, ⟨some 3, .mov (.const (.int .i64 3)), none⟩] [2, 3]) .ret) .skip))) (.seq (.seq (.ops [⟨some 68, .mov (.const (.int .i64 0)), none⟩] [0, 2, 68]) (.block 2 (.loop xtape_reader_block_l1))) (.seq (.seq (.ops [⟨some 76, .mov (.tmp 0), none⟩, ⟨some 77, .call 115 [.tmp 76], none⟩, ⟨some 78, .call 114 [.tmp 77, .const (.int .i64 16)], none⟩, ⟨some 79, .flat (.unOp .not 4 (.tmp 78)) 4, none⟩] [0, 2, 79]) (.cond (.tmp 79) (.seq (.ops [⟨some 80, .build [.int .i64 0, .slice none 0 0] [], none⟩, ⟨none, .st 2 (.tmp 2) (.tmp 80), none⟩, ⟨some 3, .mov (.const (.int .i64 3)), none⟩] [2, 3]) .ret) .skip)) (.seq (.ops [⟨some 7, .mov (.const (.slice none 0 0)), none⟩] [0, 2, 7]) (.seq (.seq (.ops [⟨some 8, .mov (.const (.int .i64 0)), none⟩, ⟨some 9, .mov (.const (.int .i64 3)), none⟩] [0, 2, 7, 8, 9]) (.block 4 (.loop xtape_reader_block_l2))) (.seq (.ops [⟨some 116, .bslice 5 1 0 [.int .u8 0] [], none⟩, ⟨some 117, .mov (.tmp 7), none⟩, ⟨some 118, .mov (.tmp 7), none⟩, ⟨some 119, .len (.tmp 118), none⟩, ⟨some 120, .bin .sub (.tmp 119) (.const (.int .i64 1)), none⟩, ⟨some 121, .slc 1 (.tmp 117) (some (.const (.int .i64 2))) (some (.tmp 120)) none, none⟩, ⟨some 122, .app 5 1 1 [.int .u8 0] (.tmp 116) (.tmp 121), none⟩, ⟨some 12, .mov (.tmp 122), none⟩] [0, 2, 7, 12]) (.seq (.seq (.dops [.mk ⟨some 123, .mov (.tmp 12), none⟩ [12] 0 [], .mk ⟨some 124, .call 69 [.tmp 123], none⟩ [123] 2 [], .mk ⟨some 125, .mov (.tmp 7), none⟩ [7] 0 [], .mk ⟨some 126, .mov (.tmp 7), none⟩ [7] 0 [], .mk ⟨some 127, .len (.tmp 126), none⟩ [126] 0 [], .mk ⟨some 128, .bin .sub (.tmp 127) (.const (.int .i64 1)), none⟩ [127] 0 [], .mk ⟨some 129, .idxA 1 (.tmp 125) (.tmp 128), none⟩ [125, 128] 0 [], .mk ⟨some 130, .ld none (.tmp 129), none⟩ [129] 1 [0], .mk ⟨some 131, .conv .i64 (.tmp 130), none⟩ [130] 0 [], .mk ⟨some 132, .bin .neq (.tmp 124) (.tmp 131), none⟩ [124, 131] 0 []] [0, 2, 12, 132]) (.cond (.tmp 132) (.seq (.ops [⟨some 133, .build [.int .i64 0, .slice none 0 0] [], none⟩, ⟨none, .st 2 (.tmp 2) (.tmp 133), none⟩, ⟨some 3, .mov (.const (.int .i64 12)), none⟩] [2, 3]) .ret) .skip)) (.seq (.ops [⟨some 134, .mov (.tmp 0), none⟩, ⟨some 135, .nilck (.tmp 134), none⟩, ⟨some 136, .fldA 2 (.tmp 135), none⟩, ⟨some 137, .ld none (.tmp 136), none⟩, ⟨some 138, .mov (.tmp 12), none⟩, ⟨some 139, .build [.int .i64 0, .slice none 0 0] [(0, 1, .tmp 137), (1, 1, .tmp 138)], none⟩, ⟨none, .st 2 (.tmp 2) (.tmp 139), none⟩, ⟨some 3, .mov (.const (.int .i64 0)), none⟩] [2, 3]) .ret)))))))))) : XCode) = T
  simp only [ofArgs, run_seq, run_block, run_ops, run_skip, run_exit, run_ret, thenQ_normal, thenQ_exit, thenQ_ret, blockQ_normal, blockQ_exit, blockQ_ret, retQ_ret, retQ_normal, ops_nil, ops_none, got_some, ops_wT, ops_wTn, ops_wF, ops_wFn, ops_wU, dops_wT, dops_wTn, dops_wF, dops_wFn, dops_wU, run_condT, run_condF, alt2_int, altB_bool, altI_int, altBB_bool, v_min, v_max, v_not, v_neg, optEv_none, optEv_some, isSome'_none, isSome'_some, pExt0, pExt1, pExt2, Bool.false_and, Bool.true_and, Bool.not_true, Bool.not_false, cond_true, cond_false, dops_nil, dops_none, xval_call, v_mov, v_bin, v_len, v_ext, v_idxA, v_ld, v_st, v_app, v_appN, v_cvs, v_bs1, pBs1, v_slc, v_conv, v_fld, v_fldA, v_new, v_box, v_mks, v_copy, v_isnil, v_nilck, v_pick, ev, evs_nil, evs_cons, fr_get_cons, fr_put_nil, fr_put_cons, fr_put_some, fr_put_none, fr_keep_nil, fr_keep_cons, fr_has_nil, fr_has_cons, Option.bind_some, Option.map_some, xbin, ibin, xresult_eq, xress_nil, xress_tmp, resV, ex_some, if_true, if_false, ite_true, ite_false, reduceIte, reduceCtorEq, Nat.reduceEqDiff, Nat.reduceLT, Nat.reduceLeDiff, Int.reduceLT, Int.reduceLE, Nat.zero_add, Nat.reduceAdd, Bool.false_eq_true, decide_eq_true_eq, decide_eq_false_iff_not, true_implies, false_implies, and_true, true_and]
  refine run_dops _ _ _ _ _ rfl ?_
  simp only [ofArgs, run_seq, run_block, run_ops, run_skip, run_exit, run_ret, thenQ_normal, thenQ_exit, thenQ_ret, blockQ_normal, blockQ_exit, blockQ_ret, retQ_ret, retQ_normal, ops_nil, ops_none, got_some, ops_wT, ops_wTn, ops_wF, ops_wFn, ops_wU, dops_wT, dops_wTn, dops_wF, dops_wFn, dops_wU, run_condT, run_condF, alt2_int, altB_bool, altI_int, altBB_bool, v_min, v_max, v_not, v_neg, optEv_none, optEv_some, isSome'_none, isSome'_some, pExt0, pExt1, pExt2, Bool.false_and, Bool.true_and, Bool.not_true, Bool.not_false, cond_true, cond_false, dops_nil, dops_none, xval_call, v_mov, v_bin, v_len, v_ext, v_idxA, v_ld, v_st, v_app, v_appN, v_cvs, v_bs1, pBs1, v_slc, v_conv, v_fld, v_fldA, v_new, v_box, v_mks, v_copy, v_isnil, v_nilck, v_pick, ev, evs_nil, evs_cons, fr_get_cons, fr_put_nil, fr_put_cons, fr_put_some, fr_put_none, fr_keep_nil, fr_keep_cons, fr_has_nil, fr_has_cons, Option.bind_some, Option.map_some, xbin, ibin, xresult_eq, xress_nil, xress_tmp, resV, ex_some, if_true, if_false, ite_true, ite_false, reduceIte, reduceCtorEq, Nat.reduceEqDiff, Nat.reduceLT, Nat.reduceLeDiff, Int.reduceLT, Int.reduceLE, Nat.zero_add, Nat.reduceAdd, Bool.false_eq_true, decide_eq_true_eq, decide_eq_false_iff_not, true_implies, false_implies, and_true, true_and, pNil_ptr, fldA0, fldA1, m0, m1, e0, w1, c1, decide_false]
  subst hT
  have w2 : IntKind.i64.wrap ((pos : Int) + 16) = ((pos + 16 : Nat) : Int) := by rw [wrI _ (by omega) (by omega)]; omega
  obtain ⟨s', k1, k2, k3, _⟩ := xslc_ok (lo := some (.int .i64 (pos : Int))) (hi := some (.int .i64 ((pos + 16 : Nat) : Int))) (i := pos) (h := pos + 16) i1 rfl rfl (by omega) (by omega)
  have htl : ((w.drop pos).take 16).length = 16 := by simp; omega
  have k2' : Ints H1 s' ((w.drop pos).take 16) := by
    unfold Ints
    rw [htl]
    have e : ((w.map (Value.int .i64)).drop (pos * 1)).take ((pos + 16 - pos) * 1) = ((w.drop pos).take 16).map (.int .i64) := by
      rw [Nat.mul_one, Nat.mul_one, show pos + 16 - pos = 16 by omega, List.map_take, List.map_drop]
    rw [e, show pos + 16 - pos = 16 by omega] at k2
    exact k2
  have el := ints_len k2'
  rw [htl] at el
  generalize hT : ((.seq (.seq (.ops [⟨some 48, .mov (.tmp 0), none⟩, ⟨some 49, .mov (.tmp 4), none⟩, ⟨some 50, .bin .mul (.const (.int .i64 2)) (.tmp 49), none⟩, ⟨some 51, .bin .add (.tmp 50) (.const (.int .i64 128)), none⟩, ⟨some 52, .bin .quo (.tmp 51) (.const (.int .i64 256)), none⟩, ⟨some 53, .nilck (.tmp 48), none⟩, ⟨some 54, .fldA 2 (.tmp 53), none⟩, ⟨none, .st 1 (.tmp 54) (.tmp 52), none⟩] [0, 2]) (.seq (.ops [⟨some 55, .mov (.tmp 0), none⟩, ⟨some 56, .nilck (.tmp 55), none⟩, ⟨some 57, .fldA 2 (.tmp 56), none⟩, ⟨some 58, .ld none (.tmp 57), none⟩, ⟨some 59, .bin .lss (.tmp 58) (.const (.int .i64 4)), none⟩, ⟨some 60, .mov (.tmp 59), none⟩, ⟨some 61, .mov (.tmp 0), some (60, false)⟩, ⟨some 62, .nilck (.tmp 61), some (60, false)⟩, ⟨some 63, .fldA 2 (.tmp 62), some (60, false)⟩, ⟨some 64, .ld none (.tmp 63), some (60, false)⟩, ⟨some 65, .bin .gtr (.tmp 64) (.const (.int .i64 1000)), some (60, false)⟩, ⟨some 66, .pick (.tmp 60) (.const (.bool true)) (.tmp 65), none⟩] [0, 2, 66]) (.cond (.tmp 66) (.seq (.ops [⟨some 67, .build [.int .i64 0, .slice none 0 0] [], none⟩, ⟨none, .st 2 (.tmp 2) (.tmp 67), none⟩, ⟨some 3, .mov (.const (.int .i64 3)), none⟩] [2, 3]) .ret) .skip))) (.seq (.seq (.ops [⟨some 68, .mov (.const (.int .i64 0)), none⟩] [0, 2, 68]) (.block 2 (.loop xtape_reader_block_l1))) (.seq (.seq (.ops [⟨some 76, .mov (.tmp 0), none⟩, ⟨some 77, .call 115 [.tmp 76], none⟩, ⟨some 78, .call 114 [.tmp 77, .const (.int .i64 16)], none⟩, ⟨some 79, .flat (.unOp .not 4 (.tmp 78)) 4, none⟩] [0, 2, 79]) (.cond (.tmp 79) (.seq (.ops [⟨some 80, .build [.int .i64 0, .slice none 0 0] [], none⟩, ⟨none, .st 2 (.tmp 2) (.tmp 80), none⟩, ⟨some 3, .mov (.const (.int .i64 3)), none⟩] [2, 3]) .ret) .skip)) (.seq (.ops [⟨some 7, .mov (.const (.slice none 0 0)), none⟩] [0, 2, 7]) (.seq (.seq (.ops [⟨some 8, .mov (.const (.int .i64 0)), none⟩, ⟨some 9, .mov (.const (.int .i64 3)), none⟩] [0, 2, 7, 8, 9]) (.block 4 (.loop xtape_reader_block_l2))) (.seq (.ops [⟨some 116, .bslice 5 1 0 [.int .u8 0] [], none⟩, ⟨some 117, .mov (.tmp 7), none⟩, ⟨some 118, .mov (.tmp 7), none⟩, ⟨some 119, .len (.tmp 118), none⟩, ⟨some 120, .bin .sub (.tmp 119) (.const (.int .i64 1)), none⟩, ⟨some 121, .slc 1 (.tmp 117) (some (.const (.int .i64 2))) (some (.tmp 120)) none, none⟩, ⟨some 122, .app 5 1 1 [.int .u8 0] (.tmp 116) (.tmp 121), none⟩, ⟨some 12, .mov (.tmp 122), none⟩] [0, 2, 7, 12]) (.seq (.seq (.dops [.mk ⟨some 123, .mov (.tmp 12), none⟩ [12] 0 [], .mk ⟨some 124, .call 69 [.tmp 123], none⟩ [123] 2 [], .mk ⟨some 125, .mov (.tmp 7), none⟩ [7] 0 [], .mk ⟨some 126, .mov (.tmp 7), none⟩ [7] 0 [], .mk ⟨some 127, .len (.tmp 126), none⟩ [126] 0 [], .mk ⟨some 128, .bin .sub (.tmp 127) (.const (.int .i64 1)), none⟩ [127] 0 [], .mk ⟨some 129, .idxA 1 (.tmp 125) (.tmp 128), none⟩ [125, 128] 0 [], .mk ⟨some 130, .ld none (.tmp 129), none⟩ [129] 1 [0], .mk ⟨some 131, .conv .i64 (.tmp 130), none⟩ [130] 0 [], .mk ⟨some 132, .bin .neq (.tmp 124) (.tmp 131), none⟩ [124, 131] 0 []] [0, 2, 12, 132]) (.cond (.tmp 132) (.seq (.ops [⟨some 133, .build [.int .i64 0, .slice none 0 0] [], none⟩, ⟨none, .st 2 (.tmp 2) (.tmp 133), none⟩, ⟨some 3, .mov (.const (.int .i64 12)), none⟩] [2, 3]) .ret) .skip)) (.seq (.ops [⟨some 134, .mov (.tmp 0), none⟩, ⟨some 135, .nilck (.tmp 134), none⟩, ⟨some 136, .fldA 2 (.tmp 135), none⟩, ⟨some 137, .ld none (.tmp 136), none⟩, ⟨some 138, .mov (.tmp 12), none⟩, ⟨some 139, .build [.int .i64 0, .slice none 0 0] [(0, 1, .tmp 137), (1, 1, .tmp 138)], none⟩, ⟨none, .st 2 (.tmp 2) (.tmp 139), none⟩, ⟨some 3, .mov (.const (.int .i64 0)), none⟩] [2, 3]) .ret)))))))) : XCode) = T
  simp only [ofArgs, run_seq, run_block, run_ops, run_skip, run_exit, run_ret, thenQ_normal, thenQ_exit, thenQ_ret, blockQ_normal, blockQ_exit, blockQ_ret, retQ_ret, retQ_normal, ops_nil, ops_none, got_some, ops_wT, ops_wTn, ops_wF, ops_wFn, ops_wU, dops_wT, dops_wTn, dops_wF, dops_wFn, dops_wU, run_condT, run_condF, alt2_int, altB_bool, altI_int, altBB_bool, v_min, v_max, v_not, v_neg, optEv_none, optEv_some, isSome'_none, isSome'_some, pExt0, pExt1, pExt2, Bool.false_and, Bool.true_and, Bool.not_true, Bool.not_false, cond_true, cond_false, dops_nil, dops_none, xval_call, v_mov, v_bin, v_len, v_ext, v_idxA, v_ld, v_st, v_app, v_appN, v_cvs, v_bs1, pBs1, v_slc, v_conv, v_fld, v_fldA, v_new, v_box, v_mks, v_copy, v_isnil, v_nilck, v_pick, ev, evs_nil, evs_cons, fr_get_cons, fr_put_nil, fr_put_cons, fr_put_some, fr_put_none, fr_keep_nil, fr_keep_cons, fr_has_nil, fr_has_cons, Option.bind_some, Option.map_some, xbin, ibin, xresult_eq, xress_nil, xress_tmp, resV, ex_some, if_true, if_false, ite_true, ite_false, reduceIte, reduceCtorEq, Nat.reduceEqDiff, Nat.reduceLT, Nat.reduceLeDiff, Int.reduceLT, Int.reduceLE, Nat.zero_add, Nat.reduceAdd, Bool.false_eq_true, decide_eq_true_eq, decide_eq_false_iff_not, true_implies, false_implies, and_true, true_and]
  refine run_dops _ _ _ _ _ rfl ?_
  simp only [ofArgs, run_seq, run_block, run_ops, run_skip, run_exit, run_ret, thenQ_normal, thenQ_exit, thenQ_ret, blockQ_normal, blockQ_exit, blockQ_ret, retQ_ret, retQ_normal, ops_nil, ops_none, got_some, ops_wT, ops_wTn, ops_wF, ops_wFn, ops_wU, dops_wT, dops_wTn, dops_wF, dops_wFn, dops_wU, run_condT, run_condF, alt2_int, altB_bool, altI_int, altBB_bool, v_min, v_max, v_not, v_neg, optEv_none, optEv_some, isSome'_none, isSome'_some, pExt0, pExt1, pExt2, Bool.false_and, Bool.true_and, Bool.not_true, Bool.not_false, cond_true, cond_false, dops_nil, dops_none, xval_call, v_mov, v_bin, v_len, v_ext, v_idxA, v_ld, v_st, v_app, v_appN, v_cvs, v_bs1, pBs1, v_slc, v_conv, v_fld, v_fldA, v_new, v_box, v_mks, v_copy, v_isnil, v_nilck, v_pick, ev, evs_nil, evs_cons, fr_get_cons, fr_put_nil, fr_put_cons, fr_put_some, fr_put_none, fr_keep_nil, fr_keep_cons, fr_has_nil, fr_has_cons, Option.bind_some, Option.map_some, xbin, ibin, xresult_eq, xress_nil, xress_tmp, resV, ex_some, if_true, if_false, ite_true, ite_false, reduceIte, reduceCtorEq, Nat.reduceEqDiff, Nat.reduceLT, Nat.reduceLeDiff, Int.reduceLT, Int.reduceLE, Nat.zero_add, Nat.reduceAdd, Bool.false_eq_true, decide_eq_true_eq, decide_eq_false_iff_not, true_implies, false_implies, and_true, true_and, pNil_ptr, fldA0, fldA1, m0, m1, w2, k1, el]
  have hpb : ∀ y ∈ (w.drop pos).take 16, 0 ≤ y ∧ y ≤ 100000 := fun y hy => hwp y (List.mem_of_mem_drop (List.mem_of_mem_take hy))
  refine blk_l0 s' _ _ H1 ((w.drop pos).take 16) [] 0 0 _ _ (by simpa using k2') hpb (by omega) (by rw [htl]; omega) (by simp) (by rw [List.nil_append, htl]) (by rw [htl]; simp) ?_
  have hsm : 0 ≤ ((w.drop pos).take 16).sum ∧ ((w.drop pos).take 16).sum ≤ 100000 * (16 : Int) := by
    have key : ∀ l : List Int, (∀ y ∈ l, 0 ≤ y ∧ y ≤ 100000) → 0 ≤ l.sum ∧ l.sum ≤ 100000 * (l.length : Int) := by
      intro l
      induction l with
      | nil => intro _; simp
      | cons a l ih =>
        intro h
        have h1 := h a (by simp)
        have h2 := ih fun y hy => h y (by simp [hy])
        rw [List.sum_cons, List.length_cons]
        omega
    have := key _ hpb
    rw [htl] at this
    exact this
  have v1 := wrI (2 * (0 + ((w.drop pos).take 16).sum)) (by omega) (by omega)
  have v2 := wrI (2 * (0 + ((w.drop pos).take 16).sum) + 128) (by omega) (by omega)
  have v3 : IntKind.i64.wrap (Int.tdiv (2 * (0 + ((w.drop pos).take 16).sum) + 128) 256) = u := by rw [Int.zero_add, hsum, wrI _ (by omega) (by omega)]
  have z256 : ¬ (256 : Int) = 0 := by decide
  have stU := r1.setU u
  obtain ⟨r2, d2⟩ := r1.set pos u
  have c4 : ¬ u < 4 := by omega
  have c5 : ¬ u > 1000 := by omega
  have m2 := ld3_2 r2.1
  subst hT
  generalize hT : ((.seq (.seq (.ops [⟨some 68, .mov (.const (.int .i64 0)), none⟩] [0, 2, 68]) (.block 2 (.loop xtape_reader_block_l1))) (.seq (.seq (.ops [⟨some 76, .mov (.tmp 0), none⟩, ⟨some 77, .call 115 [.tmp 76], none⟩, ⟨some 78, .call 114 [.tmp 77, .const (.int .i64 16)], none⟩, ⟨some 79, .flat (.unOp .not 4 (.tmp 78)) 4, none⟩] [0, 2, 79]) (.cond (.tmp 79) (.seq (.ops [⟨some 80, .build [.int .i64 0, .slice none 0 0] [], none⟩, ⟨none, .st 2 (.tmp 2) (.tmp 80), none⟩, ⟨some 3, .mov (.const (.int .i64 3)), none⟩] [2, 3]) .ret) .skip)) (.seq (.ops [⟨some 7, .mov (.const (.slice none 0 0)), none⟩] [0, 2, 7]) (.seq (.seq (.ops [⟨some 8, .mov (.const (.int .i64 0)), none⟩, ⟨some 9, .mov (.const (.int .i64 3)), none⟩] [0, 2, 7, 8, 9]) (.block 4 (.loop xtape_reader_block_l2))) (.seq (.ops [⟨some 116, .bslice 5 1 0 [.int .u8 0] [], none⟩, ⟨some 117, .mov (.tmp 7), none⟩, ⟨some 118, .mov (.tmp 7), none⟩, ⟨some 119, .len (.tmp 118), none⟩, ⟨some 120, .bin .sub (.tmp 119) (.const (.int .i64 1)), none⟩, ⟨some 121, .slc 1 (.tmp 117) (some (.const (.int .i64 2))) (some (.tmp 120)) none, none⟩, ⟨some 122, .app 5 1 1 [.int .u8 0] (.tmp 116) (.tmp 121), none⟩, ⟨some 12, .mov (.tmp 122), none⟩] [0, 2, 7, 12]) (.seq (.seq (.dops [.mk ⟨some 123, .mov (.tmp 12), none⟩ [12] 0 [], .mk ⟨some 124, .call 69 [.tmp 123], none⟩ [123] 2 [], .mk ⟨some 125, .mov (.tmp 7), none⟩ [7] 0 [], .mk ⟨some 126, .mov (.tmp 7), none⟩ [7] 0 [], .mk ⟨some 127, .len (.tmp 126), none⟩ [126] 0 [], .mk ⟨some 128, .bin .sub (.tmp 127) (.const (.int .i64 1)), none⟩ [127] 0 [], .mk ⟨some 129, .idxA 1 (.tmp 125) (.tmp 128), none⟩ [125, 128] 0 [], .mk ⟨some 130, .ld none (.tmp 129), none⟩ [129] 1 [0], .mk ⟨some 131, .conv .i64 (.tmp 130), none⟩ [130] 0 [], .mk ⟨some 132, .bin .neq (.tmp 124) (.tmp 131), none⟩ [124, 131] 0 []] [0, 2, 12, 132]) (.cond (.tmp 132) (.seq (.ops [⟨some 133, .build [.int .i64 0, .slice none 0 0] [], none⟩, ⟨none, .st 2 (.tmp 2) (.tmp 133), none⟩, ⟨some 3, .mov (.const (.int .i64 12)), none⟩] [2, 3]) .ret) .skip)) (.seq (.ops [⟨some 134, .mov (.tmp 0), none⟩, ⟨some 135, .nilck (.tmp 134), none⟩, ⟨some 136, .fldA 2 (.tmp 135), none⟩, ⟨some 137, .ld none (.tmp 136), none⟩, ⟨some 138, .mov (.tmp 12), none⟩, ⟨some 139, .build [.int .i64 0, .slice none 0 0] [(0, 1, .tmp 137), (1, 1, .tmp 138)], none⟩, ⟨none, .st 2 (.tmp 2) (.tmp 139), none⟩, ⟨some 3, .mov (.const (.int .i64 0)), none⟩] [2, 3]) .ret))))))) : XCode) = T
  simp only [ofArgs, run_seq, run_block, run_ops, run_skip, run_exit, run_ret, thenQ_normal, thenQ_exit, thenQ_ret, blockQ_normal, blockQ_exit, blockQ_ret, retQ_ret, retQ_normal, ops_nil, ops_none, got_some, ops_wT, ops_wTn, ops_wF, ops_wFn, ops_wU, dops_wT, dops_wTn, dops_wF, dops_wFn, dops_wU, run_condT, run_condF, alt2_int, altB_bool, altI_int, altBB_bool, v_min, v_max, v_not, v_neg, optEv_none, optEv_some, isSome'_none, isSome'_some, pExt0, pExt1, pExt2, Bool.false_and, Bool.true_and, Bool.not_true, Bool.not_false, cond_true, cond_false, dops_nil, dops_none, xval_call, v_mov, v_bin, v_len, v_ext, v_idxA, v_ld, v_st, v_app, v_appN, v_cvs, v_bs1, pBs1, v_slc, v_conv, v_fld, v_fldA, v_new, v_box, v_mks, v_copy, v_isnil, v_nilck, v_pick, ev, evs_nil, evs_cons, fr_get_cons, fr_put_nil, fr_put_cons, fr_put_some, fr_put_none, fr_keep_nil, fr_keep_cons, fr_has_nil, fr_has_cons, Option.bind_some, Option.map_some, xbin, ibin, xresult_eq, xress_nil, xress_tmp, resV, ex_some, if_true, if_false, ite_true, ite_false, reduceIte, reduceCtorEq, Nat.reduceEqDiff, Nat.reduceLT, Nat.reduceLeDiff, Int.reduceLT, Int.reduceLE, Nat.zero_add, Nat.reduceAdd, Bool.false_eq_true, decide_eq_true_eq, decide_eq_false_iff_not, true_implies, false_implies, and_true, true_and, pNil_ptr, fldA2, v1, v2, v3, z256, stU]
  generalize H1.set R ⟨[vt, .int .i64 (pos : Int), .int .i64 u], 1, false, false⟩ = H2 at *
  subst hT
  generalize hT : ((.seq (.seq (.ops [⟨some 76, .mov (.tmp 0), none⟩, ⟨some 77, .call 115 [.tmp 76], none⟩, ⟨some 78, .call 114 [.tmp 77, .const (.int .i64 16)], none⟩, ⟨some 79, .flat (.unOp .not 4 (.tmp 78)) 4, none⟩] [0, 2, 79]) (.cond (.tmp 79) (.seq (.ops [⟨some 80, .build [.int .i64 0, .slice none 0 0] [], none⟩, ⟨none, .st 2 (.tmp 2) (.tmp 80), none⟩, ⟨some 3, .mov (.const (.int .i64 3)), none⟩] [2, 3]) .ret) .skip)) (.seq (.ops [⟨some 7, .mov (.const (.slice none 0 0)), none⟩] [0, 2, 7]) (.seq (.seq (.ops [⟨some 8, .mov (.const (.int .i64 0)), none⟩, ⟨some 9, .mov (.const (.int .i64 3)), none⟩] [0, 2, 7, 8, 9]) (.block 4 (.loop xtape_reader_block_l2))) (.seq (.ops [⟨some 116, .bslice 5 1 0 [.int .u8 0] [], none⟩, ⟨some 117, .mov (.tmp 7), none⟩, ⟨some 118, .mov (.tmp 7), none⟩, ⟨some 119, .len (.tmp 118), none⟩, ⟨some 120, .bin .sub (.tmp 119) (.const (.int .i64 1)), none⟩, ⟨some 121, .slc 1 (.tmp 117) (some (.const (.int .i64 2))) (some (.tmp 120)) none, none⟩, ⟨some 122, .app 5 1 1 [.int .u8 0] (.tmp 116) (.tmp 121), none⟩, ⟨some 12, .mov (.tmp 122), none⟩] [0, 2, 7, 12]) (.seq (.seq (.dops [.mk ⟨some 123, .mov (.tmp 12), none⟩ [12] 0 [], .mk ⟨some 124, .call 69 [.tmp 123], none⟩ [123] 2 [], .mk ⟨some 125, .mov (.tmp 7), none⟩ [7] 0 [], .mk ⟨some 126, .mov (.tmp 7), none⟩ [7] 0 [], .mk ⟨some 127, .len (.tmp 126), none⟩ [126] 0 [], .mk ⟨some 128, .bin .sub (.tmp 127) (.const (.int .i64 1)), none⟩ [127] 0 [], .mk ⟨some 129, .idxA 1 (.tmp 125) (.tmp 128), none⟩ [125, 128] 0 [], .mk ⟨some 130, .ld none (.tmp 129), none⟩ [129] 1 [0], .mk ⟨some 131, .conv .i64 (.tmp 130), none⟩ [130] 0 [], .mk ⟨some 132, .bin .neq (.tmp 124) (.tmp 131), none⟩ [124, 131] 0 []] [0, 2, 12, 132]) (.cond (.tmp 132) (.seq (.ops [⟨some 133, .build [.int .i64 0, .slice none 0 0] [], none⟩, ⟨none, .st 2 (.tmp 2) (.tmp 133), none⟩, ⟨some 3, .mov (.const (.int .i64 12)), none⟩] [2, 3]) .ret) .skip)) (.seq (.ops [⟨some 134, .mov (.tmp 0), none⟩, ⟨some 135, .nilck (.tmp 134), none⟩, ⟨some 136, .fldA 2 (.tmp 135), none⟩, ⟨some 137, .ld none (.tmp 136), none⟩, ⟨some 138, .mov (.tmp 12), none⟩, ⟨some 139, .build [.int .i64 0, .slice none 0 0] [(0, 1, .tmp 137), (1, 1, .tmp 138)], none⟩, ⟨none, .st 2 (.tmp 2) (.tmp 139), none⟩, ⟨some 3, .mov (.const (.int .i64 0)), none⟩] [2, 3]) .ret)))))) : XCode) = T
  simp only [ofArgs, run_seq, run_block, run_ops, run_skip, run_exit, run_ret, thenQ_normal, thenQ_exit, thenQ_ret, blockQ_normal, blockQ_exit, blockQ_ret, retQ_ret, retQ_normal, ops_nil, ops_none, got_some, ops_wT, ops_wTn, ops_wF, ops_wFn, ops_wU, dops_wT, dops_wTn, dops_wF, dops_wFn, dops_wU, run_condT, run_condF, alt2_int, altB_bool, altI_int, altBB_bool, v_min, v_max, v_not, v_neg, optEv_none, optEv_some, isSome'_none, isSome'_some, pExt0, pExt1, pExt2, Bool.false_and, Bool.true_and, Bool.not_true, Bool.not_false, cond_true, cond_false, dops_nil, dops_none, xval_call, v_mov, v_bin, v_len, v_ext, v_idxA, v_ld, v_st, v_app, v_appN, v_cvs, v_bs1, pBs1, v_slc, v_conv, v_fld, v_fldA, v_new, v_box, v_mks, v_copy, v_isnil, v_nilck, v_pick, ev, evs_nil, evs_cons, fr_get_cons, fr_put_nil, fr_put_cons, fr_put_some, fr_put_none, fr_keep_nil, fr_keep_cons, fr_has_nil, fr_has_cons, Option.bind_some, Option.map_some, xbin, ibin, xresult_eq, xress_nil, xress_tmp, resV, ex_some, if_true, if_false, ite_true, ite_false, reduceIte, reduceCtorEq, Nat.reduceEqDiff, Nat.reduceLT, Nat.reduceLeDiff, Int.reduceLT, Int.reduceLE, Nat.zero_add, Nat.reduceAdd, Bool.false_eq_true, decide_eq_true_eq, decide_eq_false_iff_not, true_implies, false_implies, and_true, true_and, pNil_ptr, fldA2, v1, v2, v3, z256, stU, m2, c4, c5, decide_false]
  subst hT
  have ha0 : At u w pos (List.replicate 16 8 ++ ([16] ++ bytsU (hdU bs))) := by unfold blkU at ha; rw [List.append_assoc] at ha; exact ha
  obtain ⟨a1, a2⟩ := ha0.app
  rw [List.length_replicate] at a2
  obtain ⟨a3, a4⟩ := a2.app
  obtain ⟨⟨p, hp, hp1, hpc⟩, _⟩ := a3.head
  generalize hT : ((.seq (.ops [⟨some 7, .mov (.const (.slice none 0 0)), none⟩] [0, 2, 7]) (.seq (.seq (.ops [⟨some 8, .mov (.const (.int .i64 0)), none⟩, ⟨some 9, .mov (.const (.int .i64 3)), none⟩] [0, 2, 7, 8, 9]) (.block 4 (.loop xtape_reader_block_l2))) (.seq (.ops [⟨some 116, .bslice 5 1 0 [.int .u8 0] [], none⟩, ⟨some 117, .mov (.tmp 7), none⟩, ⟨some 118, .mov (.tmp 7), none⟩, ⟨some 119, .len (.tmp 118), none⟩, ⟨some 120, .bin .sub (.tmp 119) (.const (.int .i64 1)), none⟩, ⟨some 121, .slc 1 (.tmp 117) (some (.const (.int .i64 2))) (some (.tmp 120)) none, none⟩, ⟨some 122, .app 5 1 1 [.int .u8 0] (.tmp 116) (.tmp 121), none⟩, ⟨some 12, .mov (.tmp 122), none⟩] [0, 2, 7, 12]) (.seq (.seq (.dops [.mk ⟨some 123, .mov (.tmp 12), none⟩ [12] 0 [], .mk ⟨some 124, .call 69 [.tmp 123], none⟩ [123] 2 [], .mk ⟨some 125, .mov (.tmp 7), none⟩ [7] 0 [], .mk ⟨some 126, .mov (.tmp 7), none⟩ [7] 0 [], .mk ⟨some 127, .len (.tmp 126), none⟩ [126] 0 [], .mk ⟨some 128, .bin .sub (.tmp 127) (.const (.int .i64 1)), none⟩ [127] 0 [], .mk ⟨some 129, .idxA 1 (.tmp 125) (.tmp 128), none⟩ [125, 128] 0 [], .mk ⟨some 130, .ld none (.tmp 129), none⟩ [129] 1 [0], .mk ⟨some 131, .conv .i64 (.tmp 130), none⟩ [130] 0 [], .mk ⟨some 132, .bin .neq (.tmp 124) (.tmp 131), none⟩ [124, 131] 0 []] [0, 2, 12, 132]) (.cond (.tmp 132) (.seq (.ops [⟨some 133, .build [.int .i64 0, .slice none 0 0] [], none⟩, ⟨none, .st 2 (.tmp 2) (.tmp 133), none⟩, ⟨some 3, .mov (.const (.int .i64 12)), none⟩] [2, 3]) .ret) .skip)) (.seq (.ops [⟨some 134, .mov (.tmp 0), none⟩, ⟨some 135, .nilck (.tmp 134), none⟩, ⟨some 136, .fldA 2 (.tmp 135), none⟩, ⟨some 137, .ld none (.tmp 136), none⟩, ⟨some 138, .mov (.tmp 12), none⟩, ⟨some 139, .build [.int .i64 0, .slice none 0 0] [(0, 1, .tmp 137), (1, 1, .tmp 138)], none⟩, ⟨none, .st 2 (.tmp 2) (.tmp 139), none⟩, ⟨some 3, .mov (.const (.int .i64 0)), none⟩] [2, 3]) .ret))))) : XCode) = T
  simp only [ofArgs, run_seq, run_block, run_ops, run_skip, run_exit, run_ret, thenQ_normal, thenQ_exit, thenQ_ret, blockQ_normal, blockQ_exit, blockQ_ret, retQ_ret, retQ_normal, ops_nil, ops_none, got_some, ops_wT, ops_wTn, ops_wF, ops_wFn, ops_wU, dops_wT, dops_wTn, dops_wF, dops_wFn, dops_wU, run_condT, run_condF, alt2_int, altB_bool, altI_int, altBB_bool, v_min, v_max, v_not, v_neg, optEv_none, optEv_some, isSome'_none, isSome'_some, pExt0, pExt1, pExt2, Bool.false_and, Bool.true_and, Bool.not_true, Bool.not_false, cond_true, cond_false, dops_nil, dops_none, xval_call, v_mov, v_bin, v_len, v_ext, v_idxA, v_ld, v_st, v_app, v_appN, v_cvs, v_bs1, pBs1, v_slc, v_conv, v_fld, v_fldA, v_new, v_box, v_mks, v_copy, v_isnil, v_nilck, v_pick, ev, evs_nil, evs_cons, fr_get_cons, fr_put_nil, fr_put_cons, fr_put_some, fr_put_none, fr_keep_nil, fr_keep_cons, fr_has_nil, fr_has_cons, Option.bind_some, Option.map_some, xbin, ibin, xresult_eq, xress_nil, xress_tmp, resV, ex_some, if_true, if_false, ite_true, ite_false, reduceIte, reduceCtorEq, Nat.reduceEqDiff, Nat.reduceLT, Nat.reduceLeDiff, Int.reduceLT, Int.reduceLE, Nat.zero_add, Nat.reduceAdd, Bool.false_eq_true, decide_eq_true_eq, decide_eq_false_iff_not, true_implies, false_implies, and_true, true_and]
  refine blk_l1 R vt _ w u (by omega) hu2 hw 16 pos H2 0 _ r2 a1 rfl (Int.le_refl _) ?_
  intro H3 r3 d3
  subst hT
  generalize hT : ((.seq (.seq (.ops [⟨some 8, .mov (.const (.int .i64 0)), none⟩, ⟨some 9, .mov (.const (.int .i64 3)), none⟩] [0, 2, 7, 8, 9]) (.block 4 (.loop xtape_reader_block_l2))) (.seq (.ops [⟨some 116, .bslice 5 1 0 [.int .u8 0] [], none⟩, ⟨some 117, .mov (.tmp 7), none⟩, ⟨some 118, .mov (.tmp 7), none⟩, ⟨some 119, .len (.tmp 118), none⟩, ⟨some 120, .bin .sub (.tmp 119) (.const (.int .i64 1)), none⟩, ⟨some 121, .slc 1 (.tmp 117) (some (.const (.int .i64 2))) (some (.tmp 120)) none, none⟩, ⟨some 122, .app 5 1 1 [.int .u8 0] (.tmp 116) (.tmp 121), none⟩, ⟨some 12, .mov (.tmp 122), none⟩] [0, 2, 7, 12]) (.seq (.seq (.dops [.mk ⟨some 123, .mov (.tmp 12), none⟩ [12] 0 [], .mk ⟨some 124, .call 69 [.tmp 123], none⟩ [123] 2 [], .mk ⟨some 125, .mov (.tmp 7), none⟩ [7] 0 [], .mk ⟨some 126, .mov (.tmp 7), none⟩ [7] 0 [], .mk ⟨some 127, .len (.tmp 126), none⟩ [126] 0 [], .mk ⟨some 128, .bin .sub (.tmp 127) (.const (.int .i64 1)), none⟩ [127] 0 [], .mk ⟨some 129, .idxA 1 (.tmp 125) (.tmp 128), none⟩ [125, 128] 0 [], .mk ⟨some 130, .ld none (.tmp 129), none⟩ [129] 1 [0], .mk ⟨some 131, .conv .i64 (.tmp 130), none⟩ [130] 0 [], .mk ⟨some 132, .bin .neq (.tmp 124) (.tmp 131), none⟩ [124, 131] 0 []] [0, 2, 12, 132]) (.cond (.tmp 132) (.seq (.ops [⟨some 133, .build [.int .i64 0, .slice none 0 0] [], none⟩, ⟨none, .st 2 (.tmp 2) (.tmp 133), none⟩, ⟨some 3, .mov (.const (.int .i64 12)), none⟩] [2, 3]) .ret) .skip)) (.seq (.ops [⟨some 134, .mov (.tmp 0), none⟩, ⟨some 135, .nilck (.tmp 134), none⟩, ⟨some 136, .fldA 2 (.tmp 135), none⟩, ⟨some 137, .ld none (.tmp 136), none⟩, ⟨some 138, .mov (.tmp 12), none⟩, ⟨some 139, .build [.int .i64 0, .slice none 0 0] [(0, 1, .tmp 137), (1, 1, .tmp 138)], none⟩, ⟨none, .st 2 (.tmp 2) (.tmp 139), none⟩, ⟨some 3, .mov (.const (.int .i64 0)), none⟩] [2, 3]) .ret)))) : XCode) = T
  simp only [ofArgs, run_seq, run_block, run_ops, run_skip, run_exit, run_ret, thenQ_normal, thenQ_exit, thenQ_ret, blockQ_normal, blockQ_exit, blockQ_ret, retQ_ret, retQ_normal, ops_nil, ops_none, got_some, ops_wT, ops_wTn, ops_wF, ops_wFn, ops_wU, dops_wT, dops_wTn, dops_wF, dops_wFn, dops_wU, run_condT, run_condF, alt2_int, altB_bool, altI_int, altBB_bool, v_min, v_max, v_not, v_neg, optEv_none, optEv_some, isSome'_none, isSome'_some, pExt0, pExt1, pExt2, Bool.false_and, Bool.true_and, Bool.not_true, Bool.not_false, cond_true, cond_false, dops_nil, dops_none, xval_call, v_mov, v_bin, v_len, v_ext, v_idxA, v_ld, v_st, v_app, v_appN, v_cvs, v_bs1, pBs1, v_slc, v_conv, v_fld, v_fldA, v_new, v_box, v_mks, v_copy, v_isnil, v_nilck, v_pick, ev, evs_nil, evs_cons, fr_get_cons, fr_put_nil, fr_put_cons, fr_put_some, fr_put_none, fr_keep_nil, fr_keep_cons, fr_has_nil, fr_has_cons, Option.bind_some, Option.map_some, xbin, ibin, xresult_eq, xress_nil, xress_tmp, resV, ex_some, if_true, if_false, ite_true, ite_false, reduceIte, reduceCtorEq, Nat.reduceEqDiff, Nat.reduceLT, Nat.reduceLeDiff, Int.reduceLT, Int.reduceLE, Nat.zero_add, Nat.reduceAdd, Bool.false_eq_true, decide_eq_true_eq, decide_eq_false_iff_not, true_implies, false_implies, and_true, true_and]
  refine pulse_ok R H3 vt w (pos + 16) u p r3 (by omega) hu2 hp hp1 hw _ ?_
  intro H4 r4 d4
  rw [hpc]
  have i16 := is_xc 16 16 (by decide) (by decide) (by decide) (by decide) H4
  rw [show (decide ((4 : Int) * 16 ≥ 3 * 16) && decide ((4 : Int) * 16 ≤ 5 * 16)) = true from rfl] at i16
  simp only [ofArgs, run_seq, run_block, run_ops, run_skip, run_exit, run_ret, thenQ_normal, thenQ_exit, thenQ_ret, blockQ_normal, blockQ_exit, blockQ_ret, retQ_ret, retQ_normal, ops_nil, ops_none, got_some, ops_wT, ops_wTn, ops_wF, ops_wFn, ops_wU, dops_wT, dops_wTn, dops_wF, dops_wFn, dops_wU, run_condT, run_condF, alt2_int, altB_bool, altI_int, altBB_bool, v_min, v_max, v_not, v_neg, optEv_none, optEv_some, isSome'_none, isSome'_some, pExt0, pExt1, pExt2, Bool.false_and, Bool.true_and, Bool.not_true, Bool.not_false, cond_true, cond_false, dops_nil, dops_none, xval_call, v_mov, v_bin, v_len, v_ext, v_idxA, v_ld, v_st, v_app, v_appN, v_cvs, v_bs1, pBs1, v_slc, v_conv, v_fld, v_fldA, v_new, v_box, v_mks, v_copy, v_isnil, v_nilck, v_pick, ev, evs_nil, evs_cons, fr_get_cons, fr_put_nil, fr_put_cons, fr_put_some, fr_put_none, fr_keep_nil, fr_keep_cons, fr_has_nil, fr_has_cons, Option.bind_some, Option.map_some, xbin, ibin, xresult_eq, xress_nil, xress_tmp, resV, ex_some, if_true, if_false, ite_true, ite_false, reduceIte, reduceCtorEq, Nat.reduceEqDiff, Nat.reduceLT, Nat.reduceLeDiff, Int.reduceLT, Int.reduceLE, Nat.zero_add, Nat.reduceAdd, Bool.false_eq_true, decide_eq_true_eq, decide_eq_false_iff_not, true_implies, false_implies, and_true, true_and, i16]
  subst hT
  have d24 := d2.trans (d3.trans d4)
  have n4 := d24.1
  have hvt : ∀ b, inB vt b → b < H4.n := fun b hb => Sl.lt r4.2.2.1 hb
  have h8h := hdU_b8 bs h8 hbs (xorFold_lt bs h8 0 (by omega))
  have hhl := hdU_len bs
  generalize hT : ((.seq (.seq (.dops [.mk ⟨some 123, .mov (.tmp 12), none⟩ [12] 0 [], .mk ⟨some 124, .call 69 [.tmp 123], none⟩ [123] 2 [], .mk ⟨some 125, .mov (.tmp 7), none⟩ [7] 0 [], .mk ⟨some 126, .mov (.tmp 7), none⟩ [7] 0 [], .mk ⟨some 127, .len (.tmp 126), none⟩ [126] 0 [], .mk ⟨some 128, .bin .sub (.tmp 127) (.const (.int .i64 1)), none⟩ [127] 0 [], .mk ⟨some 129, .idxA 1 (.tmp 125) (.tmp 128), none⟩ [125, 128] 0 [], .mk ⟨some 130, .ld none (.tmp 129), none⟩ [129] 1 [0], .mk ⟨some 131, .conv .i64 (.tmp 130), none⟩ [130] 0 [], .mk ⟨some 132, .bin .neq (.tmp 124) (.tmp 131), none⟩ [124, 131] 0 []] [0, 2, 12, 132]) (.cond (.tmp 132) (.seq (.ops [⟨some 133, .build [.int .i64 0, .slice none 0 0] [], none⟩, ⟨none, .st 2 (.tmp 2) (.tmp 133), none⟩, ⟨some 3, .mov (.const (.int .i64 12)), none⟩] [2, 3]) .ret) .skip)) (.seq (.ops [⟨some 134, .mov (.tmp 0), none⟩, ⟨some 135, .nilck (.tmp 134), none⟩, ⟨some 136, .fldA 2 (.tmp 135), none⟩, ⟨some 137, .ld none (.tmp 136), none⟩, ⟨some 138, .mov (.tmp 12), none⟩, ⟨some 139, .build [.int .i64 0, .slice none 0 0] [(0, 1, .tmp 137), (1, 1, .tmp 138)], none⟩, ⟨none, .st 2 (.tmp 2) (.tmp 139), none⟩, ⟨some 3, .mov (.const (.int .i64 0)), none⟩] [2, 3]) .ret)) : XCode) = T
  simp only [ofArgs, run_seq, run_block, run_ops, run_skip, run_exit, run_ret, thenQ_normal, thenQ_exit, thenQ_ret, blockQ_normal, blockQ_exit, blockQ_ret, retQ_ret, retQ_normal, ops_nil, ops_none, got_some, ops_wT, ops_wTn, ops_wF, ops_wFn, ops_wU, dops_wT, dops_wTn, dops_wF, dops_wFn, dops_wU, run_condT, run_condF, alt2_int, altB_bool, altI_int, altBB_bool, v_min, v_max, v_not, v_neg, optEv_none, optEv_some, isSome'_none, isSome'_some, pExt0, pExt1, pExt2, Bool.false_and, Bool.true_and, Bool.not_true, Bool.not_false, cond_true, cond_false, dops_nil, dops_none, xval_call, v_mov, v_bin, v_len, v_ext, v_idxA, v_ld, v_st, v_app, v_appN, v_cvs, v_bs1, pBs1, v_slc, v_conv, v_fld, v_fldA, v_new, v_box, v_mks, v_copy, v_isnil, v_nilck, v_pick, ev, evs_nil, evs_cons, fr_get_cons, fr_put_nil, fr_put_cons, fr_put_some, fr_put_none, fr_keep_nil, fr_keep_cons, fr_has_nil, fr_has_cons, Option.bind_some, Option.map_some, xbin, ibin, xresult_eq, xress_nil, xress_tmp, resV, ex_some, if_true, if_false, ite_true, ite_false, reduceIte, reduceCtorEq, Nat.reduceEqDiff, Nat.reduceLT, Nat.reduceLeDiff, Int.reduceLT, Int.reduceLE, Nat.zero_add, Nat.reduceAdd, Bool.false_eq_true, decide_eq_true_eq, decide_eq_false_iff_not, true_implies, false_implies, and_true, true_and]
  refine blk_l2 H4.n R r4.2.1 vt _ hvt w u (by omega) hu2 hw bs hbs h8h (hdU bs) [] (pos + 16 + 1) (.slice none 0 0) H4 0 3 _ rfl r4 a4 (Own.nil _ _ _) (Nat.le_refl _) rfl rfl ?_
  intro H5 vb N5 r5 o5 n5 k5
  rw [hhl, show pos + 16 + 1 + 16 * (bs.length + 3) = pos + (65 + 16 * bs.length) by omega] at r5
  subst hT
  -- the data
  have e5 := byts_len' o5.1
  rw [hhl] at e5
  have x6 := hext_push H5 ⟨[], 1, false, false⟩
  have n6 : (H5.push ⟨[], 1, false, false⟩).n = H5.n + 1 := rfl
  have o6 : OwnB H5.n (H5.push ⟨[], 1, false, false⟩) (.slice (some ⟨H5.n, 0, none⟩) 0 0) [] := Own.pushed H5 [] 1 0 false rfl
  have b6 : Byts (H5.push ⟨[], 1, false, false⟩) vb (hdU bs) := Sl.ext x6 o5.1
  have e6 := byts_len' b6
  rw [hhl] at e6
  have w5 : IntKind.i64.wrap (((bs.length + 3 : Nat) : Int) - 1) = ((bs.length + 2 : Nat) : Int) := by rw [wrI _ (by omega) (by omega)]; omega
  obtain ⟨s2, q1, q2, q3, _⟩ := xslc_ok (lo := some (.int .i64 2)) (hi := some (.int .i64 ((bs.length + 2 : Nat) : Int))) (i := 2) (h := bs.length + 2) b6 rfl rfl (by omega) (by omega)
  have q2' : Byts (H5.push ⟨[], 1, false, false⟩) s2 bs := by
    have e : (((hdU bs).map (Value.int .u8)).drop (2 * 1)).take ((bs.length + 2 - 2) * 1) = bs.map (.int .u8) := by
      unfold hdU
      rw [show bs.length + 2 - 2 = bs.length by omega, Nat.mul_one]
      simp only [List.cons_append, List.nil_append, List.map_cons, List.map_append, Nat.mul_one, List.drop_succ_cons, List.drop_zero]
      rw [List.take_left' (by simp)]
    rw [e, show bs.length + 2 - 2 = bs.length by omega] at q2
    exact q2
  have rdr6 := r5.ext x6
  generalize hT : ((.seq (.ops [⟨some 134, .mov (.tmp 0), none⟩, ⟨some 135, .nilck (.tmp 134), none⟩, ⟨some 136, .fldA 2 (.tmp 135), none⟩, ⟨some 137, .ld none (.tmp 136), none⟩, ⟨some 138, .mov (.tmp 12), none⟩, ⟨some 139, .build [.int .i64 0, .slice none 0 0] [(0, 1, .tmp 137), (1, 1, .tmp 138)], none⟩, ⟨none, .st 2 (.tmp 2) (.tmp 139), none⟩, ⟨some 3, .mov (.const (.int .i64 0)), none⟩] [2, 3]) .ret) : XCode) = T
  simp only [ofArgs, run_seq, run_block, run_ops, run_skip, run_exit, run_ret, thenQ_normal, thenQ_exit, thenQ_ret, blockQ_normal, blockQ_exit, blockQ_ret, retQ_ret, retQ_normal, ops_nil, ops_none, got_some, ops_wT, ops_wTn, ops_wF, ops_wFn, ops_wU, dops_wT, dops_wTn, dops_wF, dops_wFn, dops_wU, run_condT, run_condF, alt2_int, altB_bool, altI_int, altBB_bool, v_min, v_max, v_not, v_neg, optEv_none, optEv_some, isSome'_none, isSome'_some, pExt0, pExt1, pExt2, Bool.false_and, Bool.true_and, Bool.not_true, Bool.not_false, cond_true, cond_false, dops_nil, dops_none, xval_call, v_mov, v_bin, v_len, v_ext, v_idxA, v_ld, v_st, v_app, v_appN, v_cvs, v_bs1, pBs1, v_slc, v_conv, v_fld, v_fldA, v_new, v_box, v_mks, v_copy, v_isnil, v_nilck, v_pick, ev, evs_nil, evs_cons, fr_get_cons, fr_put_nil, fr_put_cons, fr_put_some, fr_put_none, fr_keep_nil, fr_keep_cons, fr_has_nil, fr_has_cons, Option.bind_some, Option.map_some, xbin, ibin, xresult_eq, xress_nil, xress_tmp, resV, ex_some, if_true, if_false, ite_true, ite_false, reduceIte, reduceCtorEq, Nat.reduceEqDiff, Nat.reduceLT, Nat.reduceLeDiff, Int.reduceLT, Int.reduceLE, Nat.zero_add, Nat.reduceAdd, Bool.false_eq_true, decide_eq_true_eq, decide_eq_false_iff_not, true_implies, false_implies, and_true, true_and, v_bs0, e6, w5, q1]
  generalize H5.push ⟨[], 1, false, false⟩ = H6 at *
  refine appB o6 (by omega) q2' (by simp; omega) ?_
  intro vd H7 o7 st7
  have o7' : OwnB H5.n H7 vd bs := by simpa using o7
  have n7 := st7.n
  have keep7 : ∀ d, d < H5.n → H7.get d = H6.get d := fun d hd => st7.get d (by omega) (fun ⟨o, l, c, e⟩ => by
    simp only [Value.slice.injEq, Option.some.injEq, Addr.mk.injEq] at e
    omega)
  have hvb5 : ∀ b, inB vb b → b < H5.n := fun b hb => Sl.lt o5.1 hb
  have b7 : Byts H7 vb (hdU bs) := Sl.same b6 st7.n fun b hb => keep7 b (hvb5 b hb)
  have r7 : Rdr R H7 vt w (pos + (65 + 16 * bs.length)) u := rdr6.same st7.n (keep7 R r5.2.1) fun b hb => keep7 b (Sl.lt r5.2.2.1 hb)
  have xx := xor_xc bs vd H7 o7'.1 h8 (by omega)
  have e7 := byts_len' b7
  rw [hhl] at e7
  have i7 := byts_idx b7 ((bs.length + 2 : Nat) : Int) (bs.length + 2) rfl (by omega)
  have f7 := byts_ld b7 (bs.length + 2) ((xorFold 0 bs : Nat) : Int) (by unfold hdU; rw [List.getElem?_append_right (by simp)]; simp)
  have hxl := xorFold_lt bs h8 0 (by omega)
  have cv : IntKind.i64.wrap ((xorFold 0 bs : Nat) : Int) = ((xorFold 0 bs : Nat) : Int) := wrI _ (by omega) (by omega)
  have vqx : veq (.int .u8 ((xorFold 0 bs : Nat) : Int)) (.int .u8 ((xorFold 0 bs : Nat) : Int)) = true := veq_int _ _
  have gE7 : H7.get H.n = some ⟨[.int .i64 0, .slice none 0 0], 1, false, false⟩ := by
    have hne : H.n ≠ R := by omega
    exact (keep7 H.n (by omega)).trans ((x6.2 H.n (by omega)).trans ((k5 H.n (by omega) hne).trans ((d24.2 H.n hne).trans gE)))
  obtain ⟨p1, l1, c1', hvd⟩ := slice_form' o7'.1
  have ov := o7'
  subst hvd
  have m7 := ld3_2 r7.1
  have stE := bx2_st (a' := .int .i64 u) (b' := .slice p1 l1 c1') gE7 rfl rfl
  have gE8 : (H7.set H.n ⟨[.int .i64 u, .slice p1 l1 c1'], 1, false, false⟩).get H.n = some ⟨[.int .i64 u, .slice p1 l1 c1'], 1, false, false⟩ := by rw [AH.get_set, if_pos rfl]
  have hcell : ∀ (fr : Fr) (xs : List XRes), fr.get 2 = some (.pointer (some ⟨H.n, 0, none⟩)) → xress fr (H7.set H.n ⟨[.int .i64 u, .slice p1 l1 c1'], 1, false, false⟩) (.cell 2 (some 2) :: xs) = (xress fr (H7.set H.n ⟨[.int .i64 u, .slice p1 l1 c1'], 1, false, false⟩) xs).map fun vs => .agg #[.int .i64 u, .slice p1 l1 c1'] :: vs := by
    intro fr xs hfr
    rw [xress_cell fr _ 2 _ 0 (some 2) _ (.agg #[.int .i64 u, .slice p1 l1 c1']) xs hfr gE8 rfl]
  subst hT
  generalize hT : ((.ret) : XCode) = T
  simp only [ofArgs, run_seq, run_block, run_ops, run_skip, run_exit, run_ret, thenQ_normal, thenQ_exit, thenQ_ret, blockQ_normal, blockQ_exit, blockQ_ret, retQ_ret, retQ_normal, ops_nil, ops_none, got_some, ops_wT, ops_wTn, ops_wF, ops_wFn, ops_wU, dops_wT, dops_wTn, dops_wF, dops_wFn, dops_wU, run_condT, run_condF, alt2_int, altB_bool, altI_int, altBB_bool, v_min, v_max, v_not, v_neg, optEv_none, optEv_some, isSome'_none, isSome'_some, pExt0, pExt1, pExt2, Bool.false_and, Bool.true_and, Bool.not_true, Bool.not_false, cond_true, cond_false, dops_nil, dops_none, xval_call, v_mov, v_bin, v_len, v_ext, v_idxA, v_ld, v_st, v_app, v_appN, v_cvs, v_bs1, pBs1, v_slc, v_conv, v_fld, v_fldA, v_new, v_box, v_mks, v_copy, v_isnil, v_nilck, v_pick, ev, evs_nil, evs_cons, fr_get_cons, fr_put_nil, fr_put_cons, fr_put_some, fr_put_none, fr_keep_nil, fr_keep_cons, fr_has_nil, fr_has_cons, Option.bind_some, Option.map_some, xbin, ibin, xresult_eq, xress_nil, xress_tmp, resV, ex_some, if_true, if_false, ite_true, ite_false, reduceIte, reduceCtorEq, Nat.reduceEqDiff, Nat.reduceLT, Nat.reduceLeDiff, Int.reduceLT, Int.reduceLE, Nat.zero_add, Nat.reduceAdd, Bool.false_eq_true, decide_eq_true_eq, decide_eq_false_iff_not, true_implies, false_implies, and_true, true_and]
  refine run_dopsS _ _ _ _ _ ?_
  simp only [ofArgs, run_seq, run_block, run_ops, run_skip, run_exit, run_ret, thenQ_normal, thenQ_exit, thenQ_ret, blockQ_normal, blockQ_exit, blockQ_ret, retQ_ret, retQ_normal, ops_nil, ops_none, got_some, ops_wT, ops_wTn, ops_wF, ops_wFn, ops_wU, dops_wT, dops_wTn, dops_wF, dops_wFn, dops_wU, run_condT, run_condF, alt2_int, altB_bool, altI_int, altBB_bool, v_min, v_max, v_not, v_neg, optEv_none, optEv_some, isSome'_none, isSome'_some, pExt0, pExt1, pExt2, Bool.false_and, Bool.true_and, Bool.not_true, Bool.not_false, cond_true, cond_false, dops_nil, dops_none, xval_call, v_mov, v_bin, v_len, v_ext, v_idxA, v_ld, v_st, v_app, v_appN, v_cvs, v_bs1, pBs1, v_slc, v_conv, v_fld, v_fldA, v_new, v_box, v_mks, v_copy, v_isnil, v_nilck, v_pick, ev, evs_nil, evs_cons, fr_get_cons, fr_put_nil, fr_put_cons, fr_put_some, fr_put_none, fr_keep_nil, fr_keep_cons, fr_has_nil, fr_has_cons, Option.bind_some, Option.map_some, xbin, ibin, xresult_eq, xress_nil, xress_tmp, resV, ex_some, if_true, if_false, ite_true, ite_false, reduceIte, reduceCtorEq, Nat.reduceEqDiff, Nat.reduceLT, Nat.reduceLeDiff, Int.reduceLT, Int.reduceLE, Nat.zero_add, Nat.reduceAdd, Bool.false_eq_true, decide_eq_true_eq, decide_eq_false_iff_not, true_implies, false_implies, and_true, true_and, dr_nil, dr_cons, hs0, hs1, hs2, hs3, addC_nil, addC_cons, stabAll_nil, stabAll_cons, stab1_nil, stab1_cons, hat_cons, xval_wT, xval_wTn, xval_wF, xval_wFn, veq_int, veq_bool, veq_ptr, veq_sl, xx, e7, w5, i7, f7, pConv, cv, bne_self_eq_false, vqx]
  subst hT
  simp only [ofArgs, run_seq, run_block, run_ops, run_skip, run_exit, run_ret, thenQ_normal, thenQ_exit, thenQ_ret, blockQ_normal, blockQ_exit, blockQ_ret, retQ_ret, retQ_normal, ops_nil, ops_none, got_some, ops_wT, ops_wTn, ops_wF, ops_wFn, ops_wU, dops_wT, dops_wTn, dops_wF, dops_wFn, dops_wU, run_condT, run_condF, alt2_int, altB_bool, altI_int, altBB_bool, v_min, v_max, v_not, v_neg, optEv_none, optEv_some, isSome'_none, isSome'_some, pExt0, pExt1, pExt2, Bool.false_and, Bool.true_and, Bool.not_true, Bool.not_false, cond_true, cond_false, dops_nil, dops_none, xval_call, v_mov, v_bin, v_len, v_ext, v_idxA, v_ld, v_st, v_app, v_appN, v_cvs, v_bs1, pBs1, v_slc, v_conv, v_fld, v_fldA, v_new, v_box, v_mks, v_copy, v_isnil, v_nilck, v_pick, ev, evs_nil, evs_cons, fr_get_cons, fr_put_nil, fr_put_cons, fr_put_some, fr_put_none, fr_keep_nil, fr_keep_cons, fr_has_nil, fr_has_cons, Option.bind_some, Option.map_some, xbin, ibin, xresult_eq, xress_nil, xress_tmp, resV, ex_some, if_true, if_false, ite_true, ite_false, reduceIte, reduceCtorEq, Nat.reduceEqDiff, Nat.reduceLT, Nat.reduceLeDiff, Int.reduceLT, Int.reduceLE, Nat.zero_add, Nat.reduceAdd, Bool.false_eq_true, decide_eq_true_eq, decide_eq_false_iff_not, true_implies, false_implies, and_true, true_and, pNil_ptr, fldA2, m7, v_b2is, altS1_val, stE, hcell]
  have hRE : R ≠ H.n := by omega
  refine hq (H7.set H.n ⟨[.int .i64 u, .slice p1 l1 c1'], 1, false, false⟩) _ (r7.same (Nat.le_refl _) (by rw [AH.get_set, if_neg hRE]) fun b hb => by rw [AH.get_set, if_neg (by have := Sl.lt hr.2.2.1 hb; omega)]) ?_ (by show H.n ≤ H7.n; omega) ?_
  · refine Own.same (ov.le (by omega)) (Nat.le_refl _) fun b hb => ?_
    have h1 : H5.n ≤ b := by obtain ⟨o, l, c, e⟩ := hb; exact (ov.2 b o l c e).1
    rw [AH.get_set, if_neg (by omega)]
  · intro b hb hbR
    rw [AH.get_set, if_neg (by omega)]
    exact (keep7 b (by omega)).trans ((x6.2 b (by omega)).trans ((k5 b (by omega) hbR).trans ((d24.2 b hbR).trans (x1.2 b hb))))
end Go.Proofs.Ytejedmocjdcdgaa.D

set_option linter.unusedSimpArgs false
set_option linter.unusedVariables false
namespace Go.Proofs.Ytejedmocjdcdgaa.D
open Go Go.Det

structure OutT (n0 : Nat) (H : AH) (v : Value) (l : List TB) : Prop where
  own : OL TBL n0 H v l
  byt : ∀ s ∈ l, Byts H s.w s.bs
  dis : ∀ s ∈ l, ∀ b, inB s.w b → ¬ inB v b
  ge : ∀ s ∈ l, ∀ b, inB s.w b → n0 ≤ b
theorem OutT.tbs {n0 : Nat} {H : AH} {v : Value} {l : List TB} (h : OutT n0 H v l) : TBs H v l := ⟨h.own.1, h.byt⟩
theorem OutT.nil (n0 : Nat) (H : AH) : OutT n0 H (.slice none 0 0) [] := ⟨OL.nil _ _ _, fun s h => by simp at h, fun s h => by simp at h, fun s h => by simp at h⟩
theorem OutT.le {n0 n1 : Nat} {H : AH} {v : Value} {l : List TB} (h : OutT n1 H v l) (hl : n0 ≤ n1) : OutT n0 H v l := ⟨h.own.le hl, h.byt, h.dis, fun s hs b hb => Nat.le_trans hl (h.ge s hs b hb)⟩
theorem OutT.same {n0 : Nat} {H H' : AH} {v : Value} {l : List TB} (h : OutT n0 H v l) (hn : H.n ≤ H'.n) (hg : ∀ b, n0 ≤ b → b < H.n → H'.get b = H.get b) : OutT n0 H' v l :=
  ⟨h.own.same hn hg, fun s hs => Sl.same (h.byt s hs) hn fun b hb => hg b (h.ge s hs b hb) ((h.byt s hs).lt hb), h.dis, h.ge⟩
theorem OutT.ext {n0 : Nat} {H H' : AH} {v : Value} {l : List TB} (h : OutT n0 H v l) (x : HExt H H') : OutT n0 H' v l := h.same x.1 fun b _ hb => x.2 b hb
def toldT (s : TB) : Int × List Int := (s.u, s.bs)
theorem pS2_tb (s : TB) (H : AH) (h1 : one s.w = true) : pS2 (.agg #[.int .i64 s.u, s.w]) H = some (.slice (some ⟨H.n, 0, none⟩) 1 1, H.push ⟨TBL.cells [s], 2, false, false⟩) := by
  have e : vcells (.agg #[.int .i64 s.u, s.w]) = [.int .i64 s.u, s.w] := rfl
  unfold pS2; rw [e]; simp only [h1, show one (.int .i64 s.u) = true from rfl, Bool.true_and, cond_true]; rfl
/-- what a track tells from a place on: blocks, each of a unit and bytes -/
def Told (w : List Int) : Nat → List (Int × List Int) → Prop
  | pos, [] => pos = w.length
  | pos, (u, bs) :: r => (4 ≤ u ∧ u ≤ 1000) ∧ bs.length ≤ 100 ∧ B8 bs ∧ At u w pos (blkU bs) ∧ pos + (65 + 16 * bs.length) ≤ w.length ∧ Int.tdiv (2 * ((w.drop pos).take 16).sum + 128) 256 = u ∧ Told w (pos + (65 + 16 * bs.length)) r
theorem read_l0' (R : Nat) (vt vo : Value) (w : List Int) (pos : Nat) (u0 : Int) (H : AH) (Q : XExit → Fr → AH → Prop) (hr : Rdr R H vt w pos u0)
    (h : Run Try.prog tab (.loop xtape_Read_l0) [(0, vt), (6, .pointer (some ⟨R, 0, none⟩)), (7, vo)] H Q) :
    Run Try.prog tab (.loop xtape_Read_l0) [(0, vt), (6, .pointer (some ⟨R, 0, none⟩)), (7, vo), (40, .bool false)] H Q := by
  rw [run_loop] at h ⊢
  generalize hL : XCode.loop xtape_Read_l0 = L at h ⊢
  have m1 := ld3_1 hr.1
  have e0 := ints_len hr.2.2.1
  unfold xtape_Read_l0 at h ⊢
  generalize hT : ((.block 1 (.seq (.ops [⟨some 26, .mov (.tmp 6), none⟩, ⟨some 27, .call 72 [.tmp 26], none⟩, ⟨some 25, .mov (.tmp 27), none⟩, ⟨some 28, .ext (.tmp 25) 0, none⟩, ⟨some 29, .ext (.tmp 25) 1, none⟩, ⟨some 8, .new 47 1 [.int .i64 0, .slice none 0 0], none⟩, ⟨none, .st 2 (.tmp 8) (.tmp 28), none⟩, ⟨some 9, .mov (.tmp 29), none⟩] [0, 6, 7, 8, 9]) (.seq (.seq (.ops [⟨some 30, .mov (.tmp 9), none⟩, ⟨some 31, .bin .neq (.tmp 30) (.const (.int .i64 0)), none⟩] [0, 6, 7, 8, 9, 31]) (.cond (.tmp 31) (.seq (.ops [⟨some 32, .mov (.tmp 7), none⟩, ⟨some 33, .mov (.tmp 9), none⟩, ⟨some 2, .mov (.tmp 32), none⟩, ⟨some 3, .mov (.tmp 33), none⟩, ⟨some 4, .mov (.const (.int .i64 0)), none⟩] [2, 3, 4]) .ret) .skip)) (.seq (.ops [⟨some 34, .mov (.tmp 7), none⟩, ⟨some 35, .ld (some 2) (.tmp 8), none⟩, ⟨some 36, .bslice 47 2 1 [.int .i64 0, .slice none 0 0] [(0, .tmp 35)], none⟩, ⟨some 37, .app 47 2 32 [.int .i64 0, .slice none 0 0] (.tmp 34) (.tmp 36), none⟩, ⟨some 7, .mov (.tmp 37), none⟩] [0, 6, 7]) (.seq (.ops [⟨some 38, .mov (.tmp 7), none⟩, ⟨some 39, .len (.tmp 38), none⟩, ⟨some 40, .bin .gtr (.tmp 39) (.const (.int .i64 8)), none⟩] [0, 6, 7, 40]) (.cond (.tmp 40) (.seq (.ops [⟨some 2, .mov (.const (.slice none 0 0)), none⟩, ⟨some 3, .mov (.const (.int .i64 0)), none⟩, ⟨some 4, .mov (.const (.int .i64 2)), none⟩] [2, 3, 4]) .ret) .skip)))))) : XCode) = T at h ⊢
  by_cases hlt : (pos : Int) < (w.length : Int)
  · simp only [ofArgs, run_seq, run_block, run_ops, run_skip, run_exit, run_ret, thenQ_normal, thenQ_exit, thenQ_ret, blockQ_normal, blockQ_exit, blockQ_ret, retQ_ret, retQ_normal, ops_nil, ops_none, got_some, ops_wT, ops_wTn, ops_wF, ops_wFn, ops_wU, dops_wT, dops_wTn, dops_wF, dops_wFn, dops_wU, run_condT, run_condF, alt2_int, altB_bool, altI_int, altBB_bool, v_min, v_max, v_not, v_neg, optEv_none, optEv_some, isSome'_none, isSome'_some, pExt0, pExt1, pExt2, Bool.false_and, Bool.true_and, Bool.not_true, Bool.not_false, cond_true, cond_false, dops_nil, dops_none, xval_call, v_mov, v_bin, v_len, v_ext, v_idxA, v_ld, v_st, v_app, v_appN, v_cvs, v_bs1, pBs1, v_slc, v_conv, v_fld, v_fldA, v_new, v_box, v_mks, v_copy, v_isnil, v_nilck, v_pick, ev, evs_nil, evs_cons, fr_get_cons, fr_put_nil, fr_put_cons, fr_put_some, fr_put_none, fr_keep_nil, fr_keep_cons, fr_has_nil, fr_has_cons, Option.bind_some, Option.map_some, xbin, ibin, xresult_eq, xress_nil, xress_tmp, resV, ex_some, if_true, if_false, ite_true, ite_false, reduceIte, reduceCtorEq, Nat.reduceEqDiff, Nat.reduceLT, Nat.reduceLeDiff, Int.reduceLT, Int.reduceLE, Nat.zero_add, Nat.reduceAdd, Bool.false_eq_true, decide_eq_true_eq, decide_eq_false_iff_not, true_implies, false_implies, and_true, true_and, pNil_ptr, fldA1, m1, e0, hlt, decide_true] at h ⊢
    exact h
  · simp only [ofArgs, run_seq, run_block, run_ops, run_skip, run_exit, run_ret, thenQ_normal, thenQ_exit, thenQ_ret, blockQ_normal, blockQ_exit, blockQ_ret, retQ_ret, retQ_normal, ops_nil, ops_none, got_some, ops_wT, ops_wTn, ops_wF, ops_wFn, ops_wU, dops_wT, dops_wTn, dops_wF, dops_wFn, dops_wU, run_condT, run_condF, alt2_int, altB_bool, altI_int, altBB_bool, v_min, v_max, v_not, v_neg, optEv_none, optEv_some, isSome'_none, isSome'_some, pExt0, pExt1, pExt2, Bool.false_and, Bool.true_and, Bool.not_true, Bool.not_false, cond_true, cond_false, dops_nil, dops_none, xval_call, v_mov, v_bin, v_len, v_ext, v_idxA, v_ld, v_st, v_app, v_appN, v_cvs, v_bs1, pBs1, v_slc, v_conv, v_fld, v_fldA, v_new, v_box, v_mks, v_copy, v_isnil, v_nilck, v_pick, ev, evs_nil, evs_cons, fr_get_cons, fr_put_nil, fr_put_cons, fr_put_some, fr_put_none, fr_keep_nil, fr_keep_cons, fr_has_nil, fr_has_cons, Option.bind_some, Option.map_some, xbin, ibin, xresult_eq, xress_nil, xress_tmp, resV, ex_some, if_true, if_false, ite_true, ite_false, reduceIte, reduceCtorEq, Nat.reduceEqDiff, Nat.reduceLT, Nat.reduceLeDiff, Int.reduceLT, Int.reduceLE, Nat.zero_add, Nat.reduceAdd, Bool.false_eq_true, decide_eq_true_eq, decide_eq_false_iff_not, true_implies, false_implies, and_true, true_and, pNil_ptr, fldA1, m1, e0, hlt, decide_false] at h ⊢
    exact h
set_option maxHeartbeats 4000000 in
theorem read_l0 (n0 R : Nat) (hRn : R < n0) (vt : Value) (hvt : ∀ b, inB vt b → b < n0) (w : List Int) (hw : w.length ≤ 40000) (hwp : ∀ y ∈ w, 0 ≤ y ∧ y ≤ 100000) (rest : List (Int × List Int)) : ∀ (lo : List TB) (vo : Value) (pos : Nat) (u0 : Int) (H : AH) (Q : XExit → Fr → AH → Prop), Rdr R H vt w pos u0 → Told w pos rest → OutT n0 H vo lo → n0 ≤ H.n → lo.length + rest.length ≤ 8 →
    (∀ H' vo' lo', OutT n0 H' vo' lo' → lo'.map toldT = lo.map toldT ++ rest → H.n ≤ H'.n → (∀ b, b < n0 → b ≠ R → H'.get b = H.get b) → Q (.exit 0) [(0, vt), (6, .pointer (some ⟨R, 0, none⟩)), (7, vo'), (24, .bool false)] H') →
    Run Try.prog tab (.loop xtape_Read_l0) [(0, vt), (6, .pointer (some ⟨R, 0, none⟩)), (7, vo)] H Q := by
  induction rest with
  | nil =>
    intro lo vo pos u0 H Q hr ht ho hn hl hq
    rw [run_loop]
    generalize hL : XCode.loop xtape_Read_l0 = L
    have hpos : pos = w.length := ht
    have m1 := ld3_1 hr.1
    have e0 := ints_len hr.2.2.1
    have hf : ¬ (pos : Int) < (w.length : Int) := by omega
    simp only [xtape_Read_l0, ofArgs, run_seq, run_block, run_ops, run_skip, run_exit, run_ret, thenQ_normal, thenQ_exit, thenQ_ret, blockQ_normal, blockQ_exit, blockQ_ret, retQ_ret, retQ_normal, ops_nil, ops_none, got_some, ops_wT, ops_wTn, ops_wF, ops_wFn, ops_wU, dops_wT, dops_wTn, dops_wF, dops_wFn, dops_wU, run_condT, run_condF, alt2_int, altB_bool, altI_int, altBB_bool, v_min, v_max, v_not, v_neg, optEv_none, optEv_some, isSome'_none, isSome'_some, pExt0, pExt1, pExt2, Bool.false_and, Bool.true_and, Bool.not_true, Bool.not_false, cond_true, cond_false, dops_nil, dops_none, xval_call, v_mov, v_bin, v_len, v_ext, v_idxA, v_ld, v_st, v_app, v_appN, v_cvs, v_bs1, pBs1, v_slc, v_conv, v_fld, v_fldA, v_new, v_box, v_mks, v_copy, v_isnil, v_nilck, v_pick, ev, evs_nil, evs_cons, fr_get_cons, fr_put_nil, fr_put_cons, fr_put_some, fr_put_none, fr_keep_nil, fr_keep_cons, fr_has_nil, fr_has_cons, Option.bind_some, Option.map_some, xbin, ibin, xresult_eq, xress_nil, xress_tmp, resV, ex_some, if_true, if_false, ite_true, ite_false, reduceIte, reduceCtorEq, Nat.reduceEqDiff, Nat.reduceLT, Nat.reduceLeDiff, Int.reduceLT, Int.reduceLE, Nat.zero_add, Nat.reduceAdd, Bool.false_eq_true, decide_eq_true_eq, decide_eq_false_iff_not, true_implies, false_implies, and_true, true_and, pNil_ptr, fldA1, m1, e0, hf, decide_false]
    exact hq H vo lo ho (by simp) (Nat.le_refl _) (fun _ _ _ => rfl)
  | cons x rest ih =>
    intro lo vo pos u0 H Q hr ht ho hn hl hq
    obtain ⟨u, bs⟩ := x
    obtain ⟨hu, hbl, h8, hat, hfit, hsum, ht2⟩ := ht
    simp only [List.length_cons] at hl
    rw [run_loop]
    generalize hL : XCode.loop xtape_Read_l0 = L
    have m1 := ld3_1 hr.1
    have e0 := ints_len hr.2.2.1
    have hlt : (pos : Int) < (w.length : Int) := by omega
    simp only [xtape_Read_l0, ofArgs, run_seq, run_block, run_ops, run_skip, run_exit, run_ret, thenQ_normal, thenQ_exit, thenQ_ret, blockQ_normal, blockQ_exit, blockQ_ret, retQ_ret, retQ_normal, ops_nil, ops_none, got_some, ops_wT, ops_wTn, ops_wF, ops_wFn, ops_wU, dops_wT, dops_wTn, dops_wF, dops_wFn, dops_wU, run_condT, run_condF, alt2_int, altB_bool, altI_int, altBB_bool, v_min, v_max, v_not, v_neg, optEv_none, optEv_some, isSome'_none, isSome'_some, pExt0, pExt1, pExt2, Bool.false_and, Bool.true_and, Bool.not_true, Bool.not_false, cond_true, cond_false, dops_nil, dops_none, xval_call, v_mov, v_bin, v_len, v_ext, v_idxA, v_ld, v_st, v_app, v_appN, v_cvs, v_bs1, pBs1, v_slc, v_conv, v_fld, v_fldA, v_new, v_box, v_mks, v_copy, v_isnil, v_nilck, v_pick, ev, evs_nil, evs_cons, fr_get_cons, fr_put_nil, fr_put_cons, fr_put_some, fr_put_none, fr_keep_nil, fr_keep_cons, fr_has_nil, fr_has_cons, Option.bind_some, Option.map_some, xbin, ibin, xresult_eq, xress_nil, xress_tmp, resV, ex_some, if_true, if_false, ite_true, ite_false, reduceIte, reduceCtorEq, Nat.reduceEqDiff, Nat.reduceLT, Nat.reduceLeDiff, Int.reduceLT, Int.reduceLE, Nat.zero_add, Nat.reduceAdd, Bool.false_eq_true, decide_eq_true_eq, decide_eq_false_iff_not, true_implies, false_implies, and_true, true_and, pNil_ptr, fldA1, m1, e0, hlt, decide_true]
    refine block_ok R vt w hw hwp u u0 hu.1 hu.2 bs hbl h8 pos H hr hat hfit hsum _ ?_
    intro H1 vd r1 od n1 k1
    obtain ⟨o1, o2⟩ := slice_one od.1
    have st := bT_st H1 u vd o1
    have hx := bT_ext H1 u vd
    have g1 := bT_get H1 u vd
    have n2 := bT_n H1 u vd
    have l1 := bx2_ld g1
    have ps := fun H => pS2_tb ⟨u, vd, bs⟩ H o1
    have dgeb : ∀ b, inB vd b → H.n ≤ b := fun b ⟨o, l, c, e⟩ => (od.2 b o l c e).1
    have hv1 : OutT n0 H1 vo lo := ho.same n1 fun b hb hb2 => k1 b hb2 (by omega)
    have hv2 := hv1.ext hx
    have od2 := Own.ext hx od
    simp only [ofArgs, run_seq, run_block, run_ops, run_skip, run_exit, run_ret, thenQ_normal, thenQ_exit, thenQ_ret, blockQ_normal, blockQ_exit, blockQ_ret, retQ_ret, retQ_normal, ops_nil, ops_none, got_some, ops_wT, ops_wTn, ops_wF, ops_wFn, ops_wU, dops_wT, dops_wTn, dops_wF, dops_wFn, dops_wU, run_condT, run_condF, alt2_int, altB_bool, altI_int, altBB_bool, v_min, v_max, v_not, v_neg, optEv_none, optEv_some, isSome'_none, isSome'_some, pExt0, pExt1, pExt2, Bool.false_and, Bool.true_and, Bool.not_true, Bool.not_false, cond_true, cond_false, dops_nil, dops_none, xval_call, v_mov, v_bin, v_len, v_ext, v_idxA, v_ld, v_st, v_app, v_appN, v_cvs, v_bs1, pBs1, v_slc, v_conv, v_fld, v_fldA, v_new, v_box, v_mks, v_copy, v_isnil, v_nilck, v_pick, ev, evs_nil, evs_cons, fr_get_cons, fr_put_nil, fr_put_cons, fr_put_some, fr_put_none, fr_keep_nil, fr_keep_cons, fr_has_nil, fr_has_cons, Option.bind_some, Option.map_some, xbin, ibin, xresult_eq, xress_nil, xress_tmp, resV, ex_some, if_true, if_false, ite_true, ite_false, reduceIte, reduceCtorEq, Nat.reduceEqDiff, Nat.reduceLT, Nat.reduceLeDiff, Int.reduceLT, Int.reduceLE, Nat.zero_add, Nat.reduceAdd, Bool.false_eq_true, decide_eq_true_eq, decide_eq_false_iff_not, true_implies, false_implies, and_true, true_and, pExt0, pExt1, bne_self_eq_false, st, l1, v_bs21, ps]
    generalize bT H1 u vd = H2 at *
    refine OL.push [⟨u, vd, bs⟩] hv2.own (by omega) (by show ([.int .i64 u, vd] : List Value).all one = true; simp [o1, show one (.int .i64 u) = true from rfl]) 32 (by decide) (by simp; omega) ?_
    intro vo' H3 o3 k3 g3 new3 n3
    have hvol : ∀ b, inB vo b → b < H.n := fun b hb => ho.own.1.lt hb
    have hdv : ∀ b, inB vd b → ¬ inB vo b := fun b h1 h2 => by have := dgeb b h1; have := hvol b h2; omega
    have e3 : pLen vo' H3 = some (.int .i64 ((lo.length + 1 : Nat) : Int), H3) := by have := pLen_ok o3.1; simpa using this
    have c3 : ¬ ((lo.length + 1 : Nat) : Int) > 8 := by omega
    simp only [ofArgs, run_seq, run_block, run_ops, run_skip, run_exit, run_ret, thenQ_normal, thenQ_exit, thenQ_ret, blockQ_normal, blockQ_exit, blockQ_ret, retQ_ret, retQ_normal, ops_nil, ops_none, got_some, ops_wT, ops_wTn, ops_wF, ops_wFn, ops_wU, dops_wT, dops_wTn, dops_wF, dops_wFn, dops_wU, run_condT, run_condF, alt2_int, altB_bool, altI_int, altBB_bool, v_min, v_max, v_not, v_neg, optEv_none, optEv_some, isSome'_none, isSome'_some, pExt0, pExt1, pExt2, Bool.false_and, Bool.true_and, Bool.not_true, Bool.not_false, cond_true, cond_false, dops_nil, dops_none, xval_call, v_mov, v_bin, v_len, v_ext, v_idxA, v_ld, v_st, v_app, v_appN, v_cvs, v_bs1, pBs1, v_slc, v_conv, v_fld, v_fldA, v_new, v_box, v_mks, v_copy, v_isnil, v_nilck, v_pick, ev, evs_nil, evs_cons, fr_get_cons, fr_put_nil, fr_put_cons, fr_put_some, fr_put_none, fr_keep_nil, fr_keep_cons, fr_has_nil, fr_has_cons, Option.bind_some, Option.map_some, xbin, ibin, xresult_eq, xress_nil, xress_tmp, resV, ex_some, if_true, if_false, ite_true, ite_false, reduceIte, reduceCtorEq, Nat.reduceEqDiff, Nat.reduceLT, Nat.reduceLeDiff, Int.reduceLT, Int.reduceLE, Nat.zero_add, Nat.reduceAdd, Bool.false_eq_true, decide_eq_true_eq, decide_eq_false_iff_not, true_implies, false_implies, and_true, true_and, e3, c3, decide_false]
    subst hL
    have hno : ∀ b, b < n0 → ¬ inB vo b := fun b hb h => by have := ho.own.ge h; omega
    have g31 : ∀ b, b < H1.n → ¬ inB vo b → H3.get b = H1.get b := fun b hb hv => (g3 b (by omega) hv).trans (hx.2 b hb)
    have r3 : Rdr R H3 vt w (pos + (65 + 16 * bs.length)) u := r1.same (by omega) (g31 R r1.2.1 (hno R hRn)) fun b hb => g31 b (Sl.lt r1.2.2.1 hb) (hno b (hvt b hb))
    have hdl : ∀ b, inB vd b → b < H1.n := fun b hb => Sl.lt od.1 hb
    have o4 : OutT n0 H3 vo' (lo ++ [⟨u, vd, bs⟩]) := by
      refine ⟨o3, fun t ht => ?_, fun t ht b hb hv => ?_, fun t ht b hb => ?_⟩
      · rcases List.mem_append.1 ht with h | h
        · exact Sl.same (hv2.byt t h) (by omega) fun b hb => g3 b (Sl.lt (hv2.byt t h) hb) (hv2.dis t h b hb)
        · simp only [List.mem_singleton] at h
          subst h
          exact Sl.same od2.1 (by omega) fun b hb => g3 b (by have := hdl b hb; omega) (hdv b hb)
      · rcases List.mem_append.1 ht with h | h
        · rcases new3 b hv with h1 | h1
          · exact hv2.dis t h b hb h1
          · have := Sl.lt (hv1.byt t h) hb; omega
        · simp only [List.mem_singleton] at h
          subst h
          rcases new3 b hv with h1 | h1
          · exact hdv b hb h1
          · have := hdl b hb; omega
      · rcases List.mem_append.1 ht with h | h
        · exact hv2.ge t h b hb
        · simp only [List.mem_singleton] at h
          subst h
          have := dgeb b hb; omega
    refine read_l0' R vt vo' w _ u H3 Q r3 ?_
    refine ih (lo ++ [⟨u, vd, bs⟩]) vo' _ u H3 Q r3 ht2 o4 (by omega) (by simp; omega) ?_
    intro H4 vo4 lo4 o5 hm n4 k4
    refine hq H4 vo4 lo4 o5 ?_ (by omega) fun b hb hbR => (k4 b hb hbR).trans ((g31 b (by omega) (hno b hb)).trans (k1 b (by omega) hbR))
    rw [hm]
    simp [toldT]
def altS (o : Option Value) (f : Option Addr → Nat → Nat → Option (Value × AH)) (z : Option (Value × AH)) : Option (Value × AH) :=
  match o with
  | some (.slice p l c) => f p l c
  | _ => z
theorem altS_val (p : Option Addr) (l c : Nat) (f : Option Addr → Nat → Nat → Option (Value × AH)) (z : Option (Value × AH)) : altS (some (.slice p l c)) f z = f p l c := rfl
theorem v_b3s {P : Program} {T : XTab} (fr : Fr) (H : AH) (dd : Option Nat) (x : Operand) (z0 : Value) (n1 n2 : Int) : xval P (xc P T) ⟨dd, .build [z0, .int .i64 n1, .int .i64 n2] [(0, 1, x)], none⟩ fr H =
    altS (ev fr x) (fun p l c => some (.agg #[.slice p l c, .int .i64 n1, .int .i64 n2], H)) (xop P fr H (.build [z0, .int .i64 n1, .int .i64 n2] [(0, 1, x)])) := by
  rw [xval_op dd _ fr H rfl]
  unfold altS
  split
  · rename_i p l c h
    rw [e_build]
    simp only [xfill, h]
    rfl
  · rfl
theorem tread_ok (vt : Value) (w : List Int) (hw : w.length ≤ 40000) (hok : Ok w) (l : List (Int × List Int)) (hl : l.length ≤ 8) (H : AH) (Q : Value → AH → Prop) (hv : Ints H vt w) (ht : Told w 0 l)
    (hq : ∀ H' vo lo, OutT H.n H' vo lo → lo.map toldT = l → HExt H H' → Q (.tuple [vo, .int .i64 0, .int .i64 0].toArray) H') : Got (xc Try.prog tab 25 [vt] H) Q := by
  refine got_call (res := [.tmp 2, .tmp 3, .tmp 4]) rfl ?_
  have ck := check_xc w vt H hv hw hok
  obtain ⟨p, n, c, rfl⟩ := slice_form' hv
  have e3 : vcells (.agg #[.slice p n c, .int .i64 0, .int .i64 0]) = [.slice p n c, .int .i64 0, .int .i64 0] := rfl
  have x1 := hext_push H ⟨[.slice p n c, .int .i64 0, .int .i64 0], 1, false, false⟩
  have n1 : (H.push ⟨[.slice p n c, .int .i64 0, .int .i64 0], 1, false, false⟩).n = H.n + 1 := rfl
  have gR : (H.push ⟨[.slice p n c, .int .i64 0, .int .i64 0], 1, false, false⟩).get H.n = some ⟨[.slice p n c, .int .i64 ((0 : Nat) : Int), .int .i64 0], 1, false, false⟩ := by rw [AH.get_push, if_pos rfl]; rfl
  have hvl : ∀ b, inB (.slice p n c) b → b < H.n := fun b hb => Sl.lt hv hb
  have rd : Rdr H.n (H.push ⟨[.slice p n c, .int .i64 0, .int .i64 0], 1, false, false⟩) (.slice p n c) w 0 0 := ⟨gR, by omega, Sl.ext x1 hv, fun h => by have := hvl _ h; omega⟩
  generalize hT : ((.seq (.block 0 (.loop xtape_Read_l0)) (.seq (.ops [⟨some 41, .mov (.tmp 7), none⟩, ⟨some 2, .mov (.tmp 41), none⟩, ⟨some 3, .mov (.const (.int .i64 0)), none⟩, ⟨some 4, .mov (.const (.int .i64 0)), none⟩] [2, 3, 4]) .ret)) : XCode) = T
  simp only [ofArgs, run_seq, run_block, run_ops, run_skip, run_exit, run_ret, thenQ_normal, thenQ_exit, thenQ_ret, blockQ_normal, blockQ_exit, blockQ_ret, retQ_ret, retQ_normal, ops_nil, ops_none, got_some, ops_wT, ops_wTn, ops_wF, ops_wFn, ops_wU, dops_wT, dops_wTn, dops_wF, dops_wFn, dops_wU, run_condT, run_condF, alt2_int, altB_bool, altI_int, altBB_bool, v_min, v_max, v_not, v_neg, optEv_none, optEv_some, isSome'_none, isSome'_some, pExt0, pExt1, pExt2, Bool.false_and, Bool.true_and, Bool.not_true, Bool.not_false, cond_true, cond_false, dops_nil, dops_none, xval_call, v_mov, v_bin, v_len, v_ext, v_idxA, v_ld, v_st, v_app, v_appN, v_cvs, v_bs1, pBs1, v_slc, v_conv, v_fld, v_fldA, v_new, v_box, v_mks, v_copy, v_isnil, v_nilck, v_pick, ev, evs_nil, evs_cons, fr_get_cons, fr_put_nil, fr_put_cons, fr_put_some, fr_put_none, fr_keep_nil, fr_keep_cons, fr_has_nil, fr_has_cons, Option.bind_some, Option.map_some, xbin, ibin, xresult_eq, xress_nil, xress_tmp, resV, ex_some, if_true, if_false, ite_true, ite_false, reduceIte, reduceCtorEq, Nat.reduceEqDiff, Nat.reduceLT, Nat.reduceLeDiff, Int.reduceLT, Int.reduceLE, Nat.zero_add, Nat.reduceAdd, Bool.false_eq_true, decide_eq_true_eq, decide_eq_false_iff_not, true_implies, false_implies, and_true, true_and, ck, bne_self_eq_false, v_b3s, altS_val, e3]
  generalize H.push ⟨[.slice p n c, .int .i64 0, .int .i64 0], 1, false, false⟩ = H1 at *
  subst hT
  simp only [ofArgs, run_seq, run_block, run_ops, run_skip, run_exit, run_ret, thenQ_normal, thenQ_exit, thenQ_ret, blockQ_normal, blockQ_exit, blockQ_ret, retQ_ret, retQ_normal, ops_nil, ops_none, got_some, ops_wT, ops_wTn, ops_wF, ops_wFn, ops_wU, dops_wT, dops_wTn, dops_wF, dops_wFn, dops_wU, run_condT, run_condF, alt2_int, altB_bool, altI_int, altBB_bool, v_min, v_max, v_not, v_neg, optEv_none, optEv_some, isSome'_none, isSome'_some, pExt0, pExt1, pExt2, Bool.false_and, Bool.true_and, Bool.not_true, Bool.not_false, cond_true, cond_false, dops_nil, dops_none, xval_call, v_mov, v_bin, v_len, v_ext, v_idxA, v_ld, v_st, v_app, v_appN, v_cvs, v_bs1, pBs1, v_slc, v_conv, v_fld, v_fldA, v_new, v_box, v_mks, v_copy, v_isnil, v_nilck, v_pick, ev, evs_nil, evs_cons, fr_get_cons, fr_put_nil, fr_put_cons, fr_put_some, fr_put_none, fr_keep_nil, fr_keep_cons, fr_has_nil, fr_has_cons, Option.bind_some, Option.map_some, xbin, ibin, xresult_eq, xress_nil, xress_tmp, resV, ex_some, if_true, if_false, ite_true, ite_false, reduceIte, reduceCtorEq, Nat.reduceEqDiff, Nat.reduceLT, Nat.reduceLeDiff, Int.reduceLT, Int.reduceLE, Nat.zero_add, Nat.reduceAdd, Bool.false_eq_true, decide_eq_true_eq, decide_eq_false_iff_not, true_implies, false_implies, and_true, true_and]
  refine read_l0 (H.n + 1) H.n (by omega) (.slice p n c) (fun b hb => by have := hvl b hb; omega) w hw (fun y hy => by have := hok y hy; omega) l [] (.slice none 0 0) 0 0 H1 _ rd ht (OutT.nil _ _) (by omega) (by simpa using hl) ?_
  intro H2 vo lo o2 hm n2 k2
  simp only [ofArgs, run_seq, run_block, run_ops, run_skip, run_exit, run_ret, thenQ_normal, thenQ_exit, thenQ_ret, blockQ_normal, blockQ_exit, blockQ_ret, retQ_ret, retQ_normal, ops_nil, ops_none, got_some, ops_wT, ops_wTn, ops_wF, ops_wFn, ops_wU, dops_wT, dops_wTn, dops_wF, dops_wFn, dops_wU, run_condT, run_condF, alt2_int, altB_bool, altI_int, altBB_bool, v_min, v_max, v_not, v_neg, optEv_none, optEv_some, isSome'_none, isSome'_some, pExt0, pExt1, pExt2, Bool.false_and, Bool.true_and, Bool.not_true, Bool.not_false, cond_true, cond_false, dops_nil, dops_none, xval_call, v_mov, v_bin, v_len, v_ext, v_idxA, v_ld, v_st, v_app, v_appN, v_cvs, v_bs1, pBs1, v_slc, v_conv, v_fld, v_fldA, v_new, v_box, v_mks, v_copy, v_isnil, v_nilck, v_pick, ev, evs_nil, evs_cons, fr_get_cons, fr_put_nil, fr_put_cons, fr_put_some, fr_put_none, fr_keep_nil, fr_keep_cons, fr_has_nil, fr_has_cons, Option.bind_some, Option.map_some, xbin, ibin, xresult_eq, xress_nil, xress_tmp, resV, ex_some, if_true, if_false, ite_true, ite_false, reduceIte, reduceCtorEq, Nat.reduceEqDiff, Nat.reduceLT, Nat.reduceLeDiff, Int.reduceLT, Int.reduceLE, Nat.zero_add, Nat.reduceAdd, Bool.false_eq_true, decide_eq_true_eq, decide_eq_false_iff_not, true_implies, false_implies, and_true, true_and]
  exact hq H2 vo lo (o2.le (by omega)) (by simpa using hm) ⟨by omega, fun b hb => (k2 b (by omega) (by omega)).trans (x1.2 b hb)⟩
end Go.Proofs.Ytejedmocjdcdgaa.D

set_option linter.unusedSimpArgs false
set_option linter.unusedVariables false
namespace Go.Proofs.Ytejedmocjdcdgaa.D
open Go Go.Det

/-! ### what a tape tells behind a shake -/
def trkP (l : List (Int × List Int)) : List Int := l.flatMap fun s => pul s.1 (blkU s.2)
theorem trkP_tb (l : List TB) : trkP (l.map toldT) = trkT l := by
  induction l with
  | nil => rfl
  | cons s l ih =>
    simp only [trkP, trkT, List.map_cons, List.flatMap_cons] at ih ⊢
    rw [ih]
    rfl
theorem pul_len (u : Int) (t : List Int) : (pul u t).length = t.length := by simp [pul]
theorem trkP_len (l : List (Int × List Int)) (h : ∀ s ∈ l, s.2.length ≤ 100) : (trkP l).length ≤ 2000 * l.length ∧ 65 * l.length ≤ (trkP l).length := by
  induction l with
  | nil => simp [trkP]
  | cons s l ih =>
    have h1 := h s (by simp)
    have h2 := ih fun x hx => h x (by simp [hx])
    unfold trkP at h2 ⊢
    rw [List.flatMap_cons, List.length_append, pul_len, blkU_len, List.length_cons]
    omega
theorem shd_app (l : List Int) (most : Int) (a b : List Int) : ∀ (k : Nat) (m0 : Int), a ≠ [] → shd l most k m0 (a ++ b) = shd l most k m0 a ++ shd l most (k + a.length) (mvAt l most (k + a.length - 1)) b := by
  induction a with
  | nil => intro k m0 h; exact absurd rfl h
  | cons p a ih =>
    intro k m0 _
    cases a with
    | nil => rfl
    | cons q a =>
      have := ih (k + 1) (mvAt l most k) (by simp)
      simp only [List.cons_append, shd] at this ⊢
      rw [this]
      simp only [List.length_cons]
      rw [show k + 1 + (a.length + 1) = k + (a.length + 1 + 1) by omega]
theorem shd_sum (l : List Int) (most : Int) (a : List Int) : ∀ (k : Nat) (m0 : Int), a ≠ [] → (shd l most k m0 a).sum = a.sum + mvAt l most (k + a.length - 1) - m0 := by
  induction a with
  | nil => intro k m0 h; exact absurd rfl h
  | cons p a ih =>
    intro k m0 _
    cases a with
    | nil => simp [shd]; 
    | cons q a =>
      have := ih (k + 1) (mvAt l most k) (by simp)
      rw [shd, List.sum_cons, this, List.sum_cons (a := p)]
      simp only [List.length_cons]
      rw [show k + 1 + (a.length + 1) - 1 = k + (a.length + 1 + 1) - 1 by omega]
      omega
theorem shd_zero (t : List Int) : ∀ k, shd [] 0 k 0 t = t := by
  induction t with
  | nil => intro k; rfl
  | cons p t ih =>
    intro k
    have e : mvAt [] 0 k = 0 := rfl
    simp only [shd, e, ih]
    congr 1
    omega
theorem At.of {u : Int} {pre A B : List Int} {ns : List Int} (hok : Ok A) (hm : A.map (celOf u) = ns) : At u (pre ++ (A ++ B)) pre.length ns := by
  intro k x hk
  rw [← hm, List.getElem?_map] at hk
  cases h : A[k]? with
  | none => rw [h] at hk; cases hk
  | some p =>
    rw [h] at hk
    simp only [Option.map_some, Option.some.injEq] at hk
    have hlt := (List.getElem?_eq_some_iff.1 h).1
    refine ⟨p, ?_, hok p (List.mem_of_getElem? h), hk⟩
    rw [List.getElem?_append_right (by omega), show pre.length + k - pre.length = k by omega, List.getElem?_append_left hlt, h]
theorem told_shd (l : List Int) (most : Int) (h0 : 0 ≤ most) (h30 : most ≤ 30) (lo : List (Int × List Int)) : (∀ s ∈ lo, (4 ≤ s.1 ∧ s.1 ≤ 1000) ∧ 8 * most ≤ s.1 ∧ s.2.length ≤ 100 ∧ B8 s.2) → ∀ (pre : List Int) (k : Nat) (m0 : Int), -most ≤ m0 → m0 ≤ most →
    Told (pre ++ shd l most k m0 (trkP lo)) pre.length lo ∧ Ok (shd l most k m0 (trkP lo)) := by
  induction lo with
  | nil => intro _ pre k m0 _ _; exact ⟨by simp [Told, trkP, shd], fun p hp => by simp [trkP, shd] at hp⟩
  | cons s lo ih =>
    intro hlo pre k m0 h1 h2
    obtain ⟨u, bs⟩ := s
    obtain ⟨hu, h8m, hbl, h8⟩ := hlo (u, bs) (by simp)
    simp only at hu h8m hbl h8
    have e0 : trkP ((u, bs) :: lo) = pul u (blkU bs) ++ trkP lo := rfl
    have hne : pul u (blkU bs) ≠ [] := fun h => by
      have := congrArg List.length h
      rw [pul_len, blkU_len] at this
      simp at this
    have hpl : (pul u (blkU bs)).length = 65 + 16 * bs.length := by rw [pul_len, blkU_len]
    obtain ⟨sc1, sc2⟩ := shd_cells l u most h0 (by omega) (by omega) (by omega) (blkU bs) (blkU_bd bs) k m0 h1 h2
    have hb := mv_bnd l most h0 (k + (pul u (blkU bs)).length - 1)
    have hal : (shd l most k m0 (pul u (blkU bs))).length = 65 + 16 * bs.length := by rw [shd_len, hpl]
    obtain ⟨i1, i2⟩ := ih (fun x hx => hlo x (by simp [hx])) (pre ++ shd l most k m0 (pul u (blkU bs))) (k + (pul u (blkU bs)).length) _ hb.1 hb.2
    rw [e0, shd_app l most _ _ k m0 hne]
    rw [List.append_assoc, List.length_append, hal] at i1
    refine ⟨⟨hu, hbl, h8, At.of sc1 sc2, ?_, ?_, i1⟩, fun p hp => ?_⟩
    · rw [List.length_append, List.length_append, hal]; omega
    · rw [List.drop_left, List.take_append_of_le_length (by rw [hal]; omega)]
      have hlead : pul u (blkU bs) = pul u (List.replicate 16 8) ++ pul u ([16] ++ bytsU (hdU bs)) := by simp [pul, blkU]
      have hl16 : (pul u (List.replicate 16 8)).length = 16 := by rw [pul_len, List.length_replicate]
      have hn16 : pul u (List.replicate 16 8) ≠ [] := fun h => by rw [h] at hl16; simp at hl16
      rw [hlead, shd_app l most _ _ k m0 hn16, List.take_left' (by rw [shd_len, hl16]), shd_sum l most _ k m0 hn16, pul_sum]
      have hb2 := mv_bnd l most h0 (k + (pul u (List.replicate 16 8)).length - 1)
      generalize mvAt l most (k + (pul u (List.replicate 16 8)).length - 1) = m1 at *
      have es : (List.replicate 16 (8 : Int)).sum = 128 := by decide
      rw [es, Int.tdiv_eq_ediv_of_nonneg (by omega)]
      omega
    · rcases List.mem_append.1 hp with h | h
      · exact sc1 p h
      · exact i2 p h
theorem spd_map (t : List Int) (n : Int) : ∀ a, difs (a * n) ((sums a t).map fun x => Int.tdiv (x * n) 1) = t.map fun x => x * n := by
  induction t with
  | nil => intro a; rfl
  | cons p t ih =>
    intro a
    simp only [sums, difs, List.map_cons]
    rw [Int.tdiv_one, ih]
    congr 1
    rw [Int.add_mul]
    omega
theorem trkP_mul (n : Int) (l : List (Int × List Int)) : (trkP l).map (fun x => x * n) = trkP (l.map fun s => (s.1 * n, s.2)) := by
  induction l with
  | nil => rfl
  | cons s l ih =>
    have e0 : trkP (s :: l) = pul s.1 (blkU s.2) ++ trkP l := rfl
    rw [e0, List.map_append, ih]
    show _ = pul (s.1 * n) (blkU s.2) ++ trkP (l.map fun s => (s.1 * n, s.2))
    congr 1
    simp only [pul, List.map_map]
    refine List.map_congr_left fun a _ => ?_
    simp [Int.mul_assoc]
end Go.Proofs.Ytejedmocjdcdgaa.D

set_option linter.unusedSimpArgs false
set_option linter.unusedVariables false
namespace Go.Proofs.Ytejedmocjdcdgaa.D
open Go Go.Det

/-! ### the law's blocks -/
theorem Strm.same' {nS : Nat} {H H' : AH} {B : Nat} {v : Value} {l : List Int} (h : Strm nS H B v l) (hn : H.n ≤ H'.n) (hB : H'.get B = H.get B) (hg : ∀ b, b < nS → H'.get b = H.get b) : Strm nS H' B v l :=
  ⟨h.nb, Nat.lt_of_lt_of_le h.lt hn, hB.trans h.box, Sl.same h.ints hn fun b hb => hg b (h.out b hb), h.out⟩
theorem OwnB.flip' {n0 : Nat} {H : AH} {v : Value} {l : List Int} {k : Nat} {c : Int} {Q : Value → AH → Prop} (ho : OwnB n0 H v l) (hk : k < l.length) (hq : ∀ H', OwnB n0 H' v (l.set k c) → Stp v H v H' → Q undef H') : Got (pSt 1 (ptrAt v k) (.int .u8 c) H) Q := by
  refine pSt_own ho (by simpa using hk) rfl rfl ?_
  intro H' o s
  refine hq H' ?_ s
  have el : (l.set k c).length = l.length := by simp
  unfold OwnB
  rw [el]
  have em : (l.set k c).map (Value.int .u8) = (l.map (Value.int .u8)).set k (.int .u8 c) := by simp
  rw [em]; exact o
set_option maxHeartbeats 4000000 in
theorem blocks_l0 (nS n2 B E : Nat) (vo w : Value) (u N1 i1 : Int) (hEw : ¬ inB w E) (hB2 : B < n2) (hEB : E ≠ B) (r : Nat) : ∀ (j : Nat) (bs lst : List Int) (vs : Value) (H : AH) (N : Int) (Q : XExit → Fr → AH → Prop), Strm nS H B vs lst → OwnB n2 H w bs → B8 bs → n2 ≤ H.n → H.get E = some ⟨[.int .i64 u, w], 1, false, false⟩ → E < H.n → bs.length ≤ 1000 → j + r = bs.length → N = (bs.length : Int) →
    (∀ H' bs' vs' lst', Strm nS H' B vs' lst' → OwnB n2 H' w bs' → B8 bs' → bs'.length = bs.length → H.n ≤ H'.n → (∀ e, e < H.n → e ≠ B → ¬ inB w e → H'.get e = H.get e) → Q (.exit 2) [(3, .pointer (some ⟨B, 0, none⟩)), (4, vo), (5, .pointer (some ⟨E, 0, none⟩)), (11, .int .i64 N1), (12, .int .i64 i1), (23, .int .i64 N), (24, .int .i64 N), (25, .bool false)] H') →
    Run Try.prog tab (.loop xbakekeep2_blocks_l0) [(3, .pointer (some ⟨B, 0, none⟩)), (4, vo), (5, .pointer (some ⟨E, 0, none⟩)), (11, .int .i64 N1), (12, .int .i64 i1), (23, .int .i64 N), (24, .int .i64 (j : Int))] H Q := by
  induction r with
  | zero =>
    intro j bs lst vs H N Q hs ho h8 hn hE hEn hbl hj hN hq
    rw [run_loop]
    generalize hL : XCode.loop xbakekeep2_blocks_l0 = L
    have hjN : (j : Int) = N := by omega
    rw [hjN]
    have hf : ¬ N < N := by omega
    simp only [xbakekeep2_blocks_l0, ofArgs, run_seq, run_block, run_ops, run_skip, run_exit, run_ret, thenQ_normal, thenQ_exit, thenQ_ret, blockQ_normal, blockQ_exit, blockQ_ret, retQ_ret, retQ_normal, ops_nil, ops_none, got_some, ops_wT, ops_wTn, ops_wF, ops_wFn, ops_wU, dops_wT, dops_wTn, dops_wF, dops_wFn, dops_wU, run_condT, run_condF, alt2_int, altB_bool, altI_int, altBB_bool, v_min, v_max, v_not, v_neg, optEv_none, optEv_some, isSome'_none, isSome'_some, pExt0, pExt1, pExt2, Bool.false_and, Bool.true_and, Bool.not_true, Bool.not_false, cond_true, cond_false, dops_nil, dops_none, xval_call, v_mov, v_bin, v_len, v_ext, v_idxA, v_ld, v_st, v_app, v_appN, v_cvs, v_bs1, pBs1, v_slc, v_conv, v_fld, v_fldA, v_new, v_box, v_mks, v_copy, v_isnil, v_nilck, v_pick, ev, evs_nil, evs_cons, fr_get_cons, fr_put_nil, fr_put_cons, fr_put_some, fr_put_none, fr_keep_nil, fr_keep_cons, fr_has_nil, fr_has_cons, Option.bind_some, Option.map_some, xbin, ibin, xresult_eq, xress_nil, xress_tmp, resV, ex_some, if_true, if_false, ite_true, ite_false, reduceIte, reduceCtorEq, Nat.reduceEqDiff, Nat.reduceLT, Nat.reduceLeDiff, Int.reduceLT, Int.reduceLE, Nat.zero_add, Nat.reduceAdd, Bool.false_eq_true, decide_eq_true_eq, decide_eq_false_iff_not, true_implies, false_implies, and_true, true_and, hf, decide_false]
    exact hq H bs vs lst hs ho h8 rfl (Nat.le_refl _) (fun _ _ _ _ => rfl)
  | succ r ih =>
    intro j bs lst vs H N Q hs ho h8 hn hE hEn hbl hj hN hq
    rw [run_loop]
    generalize hL : XCode.loop xbakekeep2_blocks_l0 = L
    have hlt : (j : Int) < N := by omega
    have l1 := bx2_1 hE
    have vq := Sl.veq ho.1
    simp only [xbakekeep2_blocks_l0, ofArgs, run_seq, run_block, run_ops, run_skip, run_exit, run_ret, thenQ_normal, thenQ_exit, thenQ_ret, blockQ_normal, blockQ_exit, blockQ_ret, retQ_ret, retQ_normal, ops_nil, ops_none, got_some, ops_wT, ops_wTn, ops_wF, ops_wFn, ops_wU, dops_wT, dops_wTn, dops_wF, dops_wFn, dops_wU, run_condT, run_condF, alt2_int, altB_bool, altI_int, altBB_bool, v_min, v_max, v_not, v_neg, optEv_none, optEv_some, isSome'_none, isSome'_some, pExt0, pExt1, pExt2, Bool.false_and, Bool.true_and, Bool.not_true, Bool.not_false, cond_true, cond_false, dops_nil, dops_none, xval_call, v_mov, v_bin, v_len, v_ext, v_idxA, v_ld, v_st, v_app, v_appN, v_cvs, v_bs1, pBs1, v_slc, v_conv, v_fld, v_fldA, v_new, v_box, v_mks, v_copy, v_isnil, v_nilck, v_pick, ev, evs_nil, evs_cons, fr_get_cons, fr_put_nil, fr_put_cons, fr_put_some, fr_put_none, fr_keep_nil, fr_keep_cons, fr_has_nil, fr_has_cons, Option.bind_some, Option.map_some, xbin, ibin, xresult_eq, xress_nil, xress_tmp, resV, ex_some, if_true, if_false, ite_true, ite_false, reduceIte, reduceCtorEq, Nat.reduceEqDiff, Nat.reduceLT, Nat.reduceLeDiff, Int.reduceLT, Int.reduceLE, Nat.zero_add, Nat.reduceAdd, Bool.false_eq_true, decide_eq_true_eq, decide_eq_false_iff_not, true_implies, false_implies, and_true, true_and, hlt, decide_true]
    refine run_dopsS _ _ _ _ _ ?_
    simp only [ofArgs, run_seq, run_block, run_ops, run_skip, run_exit, run_ret, thenQ_normal, thenQ_exit, thenQ_ret, blockQ_normal, blockQ_exit, blockQ_ret, retQ_ret, retQ_normal, ops_nil, ops_none, got_some, ops_wT, ops_wTn, ops_wF, ops_wFn, ops_wU, dops_wT, dops_wTn, dops_wF, dops_wFn, dops_wU, run_condT, run_condF, alt2_int, altB_bool, altI_int, altBB_bool, v_min, v_max, v_not, v_neg, optEv_none, optEv_some, isSome'_none, isSome'_some, pExt0, pExt1, pExt2, Bool.false_and, Bool.true_and, Bool.not_true, Bool.not_false, cond_true, cond_false, dops_nil, dops_none, xval_call, v_mov, v_bin, v_len, v_ext, v_idxA, v_ld, v_st, v_app, v_appN, v_cvs, v_bs1, pBs1, v_slc, v_conv, v_fld, v_fldA, v_new, v_box, v_mks, v_copy, v_isnil, v_nilck, v_pick, ev, evs_nil, evs_cons, fr_get_cons, fr_put_nil, fr_put_cons, fr_put_some, fr_put_none, fr_keep_nil, fr_keep_cons, fr_has_nil, fr_has_cons, Option.bind_some, Option.map_some, xbin, ibin, xresult_eq, xress_nil, xress_tmp, resV, ex_some, if_true, if_false, ite_true, ite_false, reduceIte, reduceCtorEq, Nat.reduceEqDiff, Nat.reduceLT, Nat.reduceLeDiff, Int.reduceLT, Int.reduceLE, Nat.zero_add, Nat.reduceAdd, Bool.false_eq_true, decide_eq_true_eq, decide_eq_false_iff_not, true_implies, false_implies, and_true, true_and, dr_nil, dr_cons, hs0, hs1, hs2, hs3, addC_nil, addC_cons, stabAll_nil, stabAll_cons, stab1_nil, stab1_cons, hat_cons, xval_wT, xval_wTn, xval_wF, xval_wFn, veq_int, veq_bool, veq_ptr, veq_sl, fldA1, l1]
    refine next_ok nS B vs lst 256 (by decide) (by decide) H _ hs ?_
    intro v1 H1 n1 g1 st1
    have x0 := Int.emod_nonneg (lst.headD 0) (by decide : (256 : Int) ≠ 0)
    have x1 := Int.emod_lt_of_pos (lst.headD 0) (by decide : (0 : Int) < 256)
    generalize lst.headD 0 % 256 = x at *
    have hE1 := (g1 E hEB).trans hE
    have l1' := bx2_1 hE1
    have hwb : ∀ b, inB w b → b ≠ B := fun b ⟨o, l, c, e⟩ => by have := (ho.2 b o l c e).1; omega
    have o1 : OwnB n2 H1 w bs := Own.same ho (by omega) fun b hb => g1 b (hwb b hb)
    have cv := wrU8' x x0 x1
    have e3 := pIdx_one o1.1 .i64 (j : Int) j rfl (by omega)
    have w4 := wrI ((j : Int) + 1) (by omega) (by omega)
    simp only [ofArgs, run_seq, run_block, run_ops, run_skip, run_exit, run_ret, thenQ_normal, thenQ_exit, thenQ_ret, blockQ_normal, blockQ_exit, blockQ_ret, retQ_ret, retQ_normal, ops_nil, ops_none, got_some, ops_wT, ops_wTn, ops_wF, ops_wFn, ops_wU, dops_wT, dops_wTn, dops_wF, dops_wFn, dops_wU, run_condT, run_condF, alt2_int, altB_bool, altI_int, altBB_bool, v_min, v_max, v_not, v_neg, optEv_none, optEv_some, isSome'_none, isSome'_some, pExt0, pExt1, pExt2, Bool.false_and, Bool.true_and, Bool.not_true, Bool.not_false, cond_true, cond_false, dops_nil, dops_none, xval_call, v_mov, v_bin, v_len, v_ext, v_idxA, v_ld, v_st, v_app, v_appN, v_cvs, v_bs1, pBs1, v_slc, v_conv, v_fld, v_fldA, v_new, v_box, v_mks, v_copy, v_isnil, v_nilck, v_pick, ev, evs_nil, evs_cons, fr_get_cons, fr_put_nil, fr_put_cons, fr_put_some, fr_put_none, fr_keep_nil, fr_keep_cons, fr_has_nil, fr_has_cons, Option.bind_some, Option.map_some, xbin, ibin, xresult_eq, xress_nil, xress_tmp, resV, ex_some, if_true, if_false, ite_true, ite_false, reduceIte, reduceCtorEq, Nat.reduceEqDiff, Nat.reduceLT, Nat.reduceLeDiff, Int.reduceLT, Int.reduceLE, Nat.zero_add, Nat.reduceAdd, Bool.false_eq_true, decide_eq_true_eq, decide_eq_false_iff_not, true_implies, false_implies, and_true, true_and, dr_nil, dr_cons, hs0, hs1, hs2, hs3, addC_nil, addC_cons, stabAll_nil, stabAll_cons, stab1_nil, stab1_cons, hat_cons, xval_wT, xval_wTn, xval_wF, xval_wFn, veq_int, veq_bool, veq_ptr, veq_sl, pConv, cv, e3, l1', vq]
    refine OwnB.flip' o1 (by omega) ?_
    intro H4 o4 s4
    simp only [ofArgs, run_seq, run_block, run_ops, run_skip, run_exit, run_ret, thenQ_normal, thenQ_exit, thenQ_ret, blockQ_normal, blockQ_exit, blockQ_ret, retQ_ret, retQ_normal, ops_nil, ops_none, got_some, ops_wT, ops_wTn, ops_wF, ops_wFn, ops_wU, dops_wT, dops_wTn, dops_wF, dops_wFn, dops_wU, run_condT, run_condF, alt2_int, altB_bool, altI_int, altBB_bool, v_min, v_max, v_not, v_neg, optEv_none, optEv_some, isSome'_none, isSome'_some, pExt0, pExt1, pExt2, Bool.false_and, Bool.true_and, Bool.not_true, Bool.not_false, cond_true, cond_false, dops_nil, dops_none, xval_call, v_mov, v_bin, v_len, v_ext, v_idxA, v_ld, v_st, v_app, v_appN, v_cvs, v_bs1, pBs1, v_slc, v_conv, v_fld, v_fldA, v_new, v_box, v_mks, v_copy, v_isnil, v_nilck, v_pick, ev, evs_nil, evs_cons, fr_get_cons, fr_put_nil, fr_put_cons, fr_put_some, fr_put_none, fr_keep_nil, fr_keep_cons, fr_has_nil, fr_has_cons, Option.bind_some, Option.map_some, xbin, ibin, xresult_eq, xress_nil, xress_tmp, resV, ex_some, if_true, if_false, ite_true, ite_false, reduceIte, reduceCtorEq, Nat.reduceEqDiff, Nat.reduceLT, Nat.reduceLeDiff, Int.reduceLT, Int.reduceLE, Nat.zero_add, Nat.reduceAdd, Bool.false_eq_true, decide_eq_true_eq, decide_eq_false_iff_not, true_implies, false_implies, and_true, true_and, dr_nil, dr_cons, hs0, hs1, hs2, hs3, addC_nil, addC_cons, stabAll_nil, stabAll_cons, stab1_nil, stab1_cons, hat_cons, xval_wT, xval_wTn, xval_wF, xval_wFn, veq_int, veq_bool, veq_ptr, veq_sl, fldA1, l1', vq, w4]
    subst hL
    have n4 := s4.n
    have hwB : ¬ inB w B := fun h => hwb B h rfl
    have hE4 := (s4.get E (by omega) hEw).trans hE1
    have st4 : Strm nS H4 B v1 lst.tail := st1.same' n4 (s4.get B st1.lt hwB) fun b hb => s4.get b (by have := st1.nb; have := st1.lt; omega) (fun ⟨o, l, c, e⟩ => by have := (o1.2 b o l c e).1; have := st1.nb; omega)
    refine ih (j + 1) _ _ v1 H4 N Q st4 o4 (fun b hb => ?_) (by omega) hE4 (by omega) (by simpa using hbl) (by simp; omega) (by simpa using hN) ?_
    · rcases List.mem_or_eq_of_mem_set hb with h | h
      · exact h8 b h
      · subst h; exact ⟨x0, x1⟩
    · intro H5 bs' vs' lst' st5 o5 h85 hl5 n5 k5
      exact hq H5 bs' vs' lst' st5 o5 h85 (by simpa using hl5) (by omega) (fun e he heB hv => (k5 e (by omega) heB hv).trans ((s4.get e (by omega) hv).trans (g1 e heB)))
end Go.Proofs.Ytejedmocjdcdgaa.D

set_option linter.unusedSimpArgs false
set_option linter.unusedVariables false
namespace Go.Proofs.Ytejedmocjdcdgaa.D
open Go Go.Det

def TbOk9 (s : TB) : Prop := 4 ≤ s.u ∧ s.u ≤ 99 ∧ s.bs.length ≤ 100 ∧ B8 s.bs
set_option maxHeartbeats 8000000 in
theorem blocks_l1 (nS B n1 : Nat) (hBn : B < n1) (r : Nat) : ∀ (lo : List TB) (vo : Value) (lst : List Int) (vs : Value) (H : AH) (i N : Int) (Q : XExit → Fr → AH → Prop), Strm nS H B vs lst → OutT n1 H vo lo → n1 ≤ H.n → (∀ s ∈ lo, TbOk9 s) → lo.length + r ≤ 8 → i + r = N → 0 ≤ i → N ≤ 10 →
    (∀ H' vo' lo', OutT n1 H' vo' lo' → (∀ s ∈ lo', TbOk9 s) → lo'.length ≤ 8 → H.n ≤ H'.n → (∀ d, d < n1 → d ≠ B → H'.get d = H.get d) → Q (.exit 0) [(3, .pointer (some ⟨B, 0, none⟩)), (4, vo'), (11, .int .i64 N), (12, .int .i64 N), (13, .bool false)] H') →
    Run Try.prog tab (.loop xbakekeep2_blocks_l1) [(3, .pointer (some ⟨B, 0, none⟩)), (4, vo), (11, .int .i64 N), (12, .int .i64 i)] H Q := by
  induction r with
  | zero =>
    intro lo vo lst vs H i N Q hs ho hn hok hl hi hi0 hN hq
    rw [run_loop]
    generalize hL : XCode.loop xbakekeep2_blocks_l1 = L
    have hiN : i = N := by omega
    subst hiN
    have hf : ¬ i < i := by omega
    simp only [xbakekeep2_blocks_l1, ofArgs, run_seq, run_block, run_ops, run_skip, run_exit, run_ret, thenQ_normal, thenQ_exit, thenQ_ret, blockQ_normal, blockQ_exit, blockQ_ret, retQ_ret, retQ_normal, ops_nil, ops_none, got_some, ops_wT, ops_wTn, ops_wF, ops_wFn, ops_wU, dops_wT, dops_wTn, dops_wF, dops_wFn, dops_wU, run_condT, run_condF, alt2_int, altB_bool, altI_int, altBB_bool, v_min, v_max, v_not, v_neg, optEv_none, optEv_some, isSome'_none, isSome'_some, pExt0, pExt1, pExt2, Bool.false_and, Bool.true_and, Bool.not_true, Bool.not_false, cond_true, cond_false, dops_nil, dops_none, xval_call, v_mov, v_bin, v_len, v_ext, v_idxA, v_ld, v_st, v_app, v_appN, v_cvs, v_bs1, pBs1, v_slc, v_conv, v_fld, v_fldA, v_new, v_box, v_mks, v_copy, v_isnil, v_nilck, v_pick, ev, evs_nil, evs_cons, fr_get_cons, fr_put_nil, fr_put_cons, fr_put_some, fr_put_none, fr_keep_nil, fr_keep_cons, fr_has_nil, fr_has_cons, Option.bind_some, Option.map_some, xbin, ibin, xresult_eq, xress_nil, xress_tmp, resV, ex_some, if_true, if_false, ite_true, ite_false, reduceIte, reduceCtorEq, Nat.reduceEqDiff, Nat.reduceLT, Nat.reduceLeDiff, Int.reduceLT, Int.reduceLE, Nat.zero_add, Nat.reduceAdd, Bool.false_eq_true, decide_eq_true_eq, decide_eq_false_iff_not, true_implies, false_implies, and_true, true_and, hf, decide_false]
    exact hq H vo lo ho hok (by omega) (Nat.le_refl _) (fun _ _ _ => rfl)
  | succ r ih =>
    intro lo vo lst vs H i N Q hs ho hn hok hl hi hi0 hN hq
    rw [run_loop]
    generalize hL : XCode.loop xbakekeep2_blocks_l1 = L
    have hlt : i < N := by omega
    have hBH := hs.lt
    have nb := hs.nb
    simp only [xbakekeep2_blocks_l1, ofArgs, run_seq, run_block, run_ops, run_skip, run_exit, run_ret, thenQ_normal, thenQ_exit, thenQ_ret, blockQ_normal, blockQ_exit, blockQ_ret, retQ_ret, retQ_normal, ops_nil, ops_none, got_some, ops_wT, ops_wTn, ops_wF, ops_wFn, ops_wU, dops_wT, dops_wTn, dops_wF, dops_wFn, dops_wU, run_condT, run_condF, alt2_int, altB_bool, altI_int, altBB_bool, v_min, v_max, v_not, v_neg, optEv_none, optEv_some, isSome'_none, isSome'_some, pExt0, pExt1, pExt2, Bool.false_and, Bool.true_and, Bool.not_true, Bool.not_false, cond_true, cond_false, dops_nil, dops_none, xval_call, v_mov, v_bin, v_len, v_ext, v_idxA, v_ld, v_st, v_app, v_appN, v_cvs, v_bs1, pBs1, v_slc, v_conv, v_fld, v_fldA, v_new, v_box, v_mks, v_copy, v_isnil, v_nilck, v_pick, ev, evs_nil, evs_cons, fr_get_cons, fr_put_nil, fr_put_cons, fr_put_some, fr_put_none, fr_keep_nil, fr_keep_cons, fr_has_nil, fr_has_cons, Option.bind_some, Option.map_some, xbin, ibin, xresult_eq, xress_nil, xress_tmp, resV, ex_some, if_true, if_false, ite_true, ite_false, reduceIte, reduceCtorEq, Nat.reduceEqDiff, Nat.reduceLT, Nat.reduceLeDiff, Int.reduceLT, Int.reduceLE, Nat.zero_add, Nat.reduceAdd, Bool.false_eq_true, decide_eq_true_eq, decide_eq_false_iff_not, true_implies, false_implies, and_true, true_and, hlt, decide_true]
    refine next_ok nS B vs lst 96 (by decide) (by decide) H _ hs ?_
    intro v1 H1 n1' g1 st1
    have x0 := Int.emod_nonneg (lst.headD 0) (by decide : (96 : Int) ≠ 0)
    have x1 := Int.emod_lt_of_pos (lst.headD 0) (by decide : (0 : Int) < 96)
    generalize lst.headD 0 % 96 = x at *
    have w1 := wrI (4 + x) (by omega) (by omega)
    simp only [ofArgs, run_seq, run_block, run_ops, run_skip, run_exit, run_ret, thenQ_normal, thenQ_exit, thenQ_ret, blockQ_normal, blockQ_exit, blockQ_ret, retQ_ret, retQ_normal, ops_nil, ops_none, got_some, ops_wT, ops_wTn, ops_wF, ops_wFn, ops_wU, dops_wT, dops_wTn, dops_wF, dops_wFn, dops_wU, run_condT, run_condF, alt2_int, altB_bool, altI_int, altBB_bool, v_min, v_max, v_not, v_neg, optEv_none, optEv_some, isSome'_none, isSome'_some, pExt0, pExt1, pExt2, Bool.false_and, Bool.true_and, Bool.not_true, Bool.not_false, cond_true, cond_false, dops_nil, dops_none, xval_call, v_mov, v_bin, v_len, v_ext, v_idxA, v_ld, v_st, v_app, v_appN, v_cvs, v_bs1, pBs1, v_slc, v_conv, v_fld, v_fldA, v_new, v_box, v_mks, v_copy, v_isnil, v_nilck, v_pick, ev, evs_nil, evs_cons, fr_get_cons, fr_put_nil, fr_put_cons, fr_put_some, fr_put_none, fr_keep_nil, fr_keep_cons, fr_has_nil, fr_has_cons, Option.bind_some, Option.map_some, xbin, ibin, xresult_eq, xress_nil, xress_tmp, resV, ex_some, if_true, if_false, ite_true, ite_false, reduceIte, reduceCtorEq, Nat.reduceEqDiff, Nat.reduceLT, Nat.reduceLeDiff, Int.reduceLT, Int.reduceLE, Nat.zero_add, Nat.reduceAdd, Bool.false_eq_true, decide_eq_true_eq, decide_eq_false_iff_not, true_implies, false_implies, and_true, true_and, w1]
    refine next_ok nS B v1 lst.tail 20 (by decide) (by decide) H1 _ st1 ?_
    intro v2 H2 n2' g2 st2
    have y0 := Int.emod_nonneg (lst.tail.headD 0) (by decide : (20 : Int) ≠ 0)
    have y1 := Int.emod_lt_of_pos (lst.tail.headD 0) (by decide : (0 : Int) < 20)
    generalize lst.tail.headD 0 % 20 = y at *
    obtain ⟨m, hm⟩ : ∃ m : Nat, y = (m : Int) := ⟨y.toNat, by omega⟩
    subst hm
    have gg : ∀ d, d ≠ B → H2.get d = H.get d := fun d hd => (g2 d hd).trans (g1 d hd)
    have nn : H2.n = H.n := by omega
    have hmk := pMks_ok (.int .u8 0) m (by omega) .i64 H2 (m : Int) rfl
    have x6 := hext_push H2 ⟨rep m [.int .u8 0], 1, false, false⟩
    have n6 : (H2.push ⟨rep m [.int .u8 0], 1, false, false⟩).n = H2.n + 1 := rfl
    have ob : OwnB H2.n (H2.push ⟨rep m [.int .u8 0], 1, false, false⟩) (.slice (some ⟨H2.n, 0, none⟩) m m) (List.replicate m 0) := by
      have hp := Own.pushed H2 (rep m [.int .u8 0]) 1 m false (by rw [rep_length]; simp)
      unfold OwnB
      rw [rep_one] at hp
      simpa [rep_one] using hp
    have st6 := st2.same' x6.1 (x6.2 B st2.lt) fun b hb => x6.2 b (by omega)
    simp only [ofArgs, run_seq, run_block, run_ops, run_skip, run_exit, run_ret, thenQ_normal, thenQ_exit, thenQ_ret, blockQ_normal, blockQ_exit, blockQ_ret, retQ_ret, retQ_normal, ops_nil, ops_none, got_some, ops_wT, ops_wTn, ops_wF, ops_wFn, ops_wU, dops_wT, dops_wTn, dops_wF, dops_wFn, dops_wU, run_condT, run_condF, alt2_int, altB_bool, altI_int, altBB_bool, v_min, v_max, v_not, v_neg, optEv_none, optEv_some, isSome'_none, isSome'_some, pExt0, pExt1, pExt2, Bool.false_and, Bool.true_and, Bool.not_true, Bool.not_false, cond_true, cond_false, dops_nil, dops_none, xval_call, v_mov, v_bin, v_len, v_ext, v_idxA, v_ld, v_st, v_app, v_appN, v_cvs, v_bs1, pBs1, v_slc, v_conv, v_fld, v_fldA, v_new, v_box, v_mks, v_copy, v_isnil, v_nilck, v_pick, ev, evs_nil, evs_cons, fr_get_cons, fr_put_nil, fr_put_cons, fr_put_some, fr_put_none, fr_keep_nil, fr_keep_cons, fr_has_nil, fr_has_cons, Option.bind_some, Option.map_some, xbin, ibin, xresult_eq, xress_nil, xress_tmp, resV, ex_some, if_true, if_false, ite_true, ite_false, reduceIte, reduceCtorEq, Nat.reduceEqDiff, Nat.reduceLT, Nat.reduceLeDiff, Int.reduceLT, Int.reduceLE, Nat.zero_add, Nat.reduceAdd, Bool.false_eq_true, decide_eq_true_eq, decide_eq_false_iff_not, true_implies, false_implies, and_true, true_and, hmk, v_b2is, altS1_val]
    generalize H2.push ⟨rep m [.int .u8 0], 1, false, false⟩ = H6 at *
    generalize hw : Value.slice (some ⟨H2.n, 0, none⟩) m m = w at *
    have hwE : ∀ b, inB w b → b = H2.n := fun b hb => by
      subst hw
      obtain ⟨o, l, c, e⟩ := hb
      simp only [Value.slice.injEq, Option.some.injEq, Addr.mk.injEq] at e
      omega
    obtain ⟨a1, a2⟩ := slice_one ob.1
    have stE := bT_st H6 (4 + x) w a1
    have xE := bT_ext H6 (4 + x) w
    have gE := bT_get H6 (4 + x) w
    have nE := bT_n H6 (4 + x) w
    have l2 := bx2_1 gE
    have ob7 := Own.ext xE ob
    have st7 := st6.same' xE.1 (xE.2 B st6.lt) fun b hb => xE.2 b (by omega)
    have hlenw := byts_len' (ob7.1 : Byts _ w (List.replicate m 0))
    rw [List.length_replicate] at hlenw
    simp only [ofArgs, run_seq, run_block, run_ops, run_skip, run_exit, run_ret, thenQ_normal, thenQ_exit, thenQ_ret, blockQ_normal, blockQ_exit, blockQ_ret, retQ_ret, retQ_normal, ops_nil, ops_none, got_some, ops_wT, ops_wTn, ops_wF, ops_wFn, ops_wU, dops_wT, dops_wTn, dops_wF, dops_wFn, dops_wU, run_condT, run_condF, alt2_int, altB_bool, altI_int, altBB_bool, v_min, v_max, v_not, v_neg, optEv_none, optEv_some, isSome'_none, isSome'_some, pExt0, pExt1, pExt2, Bool.false_and, Bool.true_and, Bool.not_true, Bool.not_false, cond_true, cond_false, dops_nil, dops_none, xval_call, v_mov, v_bin, v_len, v_ext, v_idxA, v_ld, v_st, v_app, v_appN, v_cvs, v_bs1, pBs1, v_slc, v_conv, v_fld, v_fldA, v_new, v_box, v_mks, v_copy, v_isnil, v_nilck, v_pick, ev, evs_nil, evs_cons, fr_get_cons, fr_put_nil, fr_put_cons, fr_put_some, fr_put_none, fr_keep_nil, fr_keep_cons, fr_has_nil, fr_has_cons, Option.bind_some, Option.map_some, xbin, ibin, xresult_eq, xress_nil, xress_tmp, resV, ex_some, if_true, if_false, ite_true, ite_false, reduceIte, reduceCtorEq, Nat.reduceEqDiff, Nat.reduceLT, Nat.reduceLeDiff, Int.reduceLT, Int.reduceLE, Nat.zero_add, Nat.reduceAdd, Bool.false_eq_true, decide_eq_true_eq, decide_eq_false_iff_not, true_implies, false_implies, and_true, true_and, stE, fldA1, l2, hlenw]
    generalize bT H6 (4 + x) w = H7 at *
    have bl := fun Q => blocks_l0 nS H2.n B H6.n vo w (4 + x) N i (fun h => by have := hwE _ h; omega) (by omega) (by omega) m 0 (List.replicate m 0) lst.tail.tail v2 H7 (m : Int) Q st7 ob7 (fun b hb => by have := List.eq_of_mem_replicate hb; omega) (by omega) gE (by omega) (by simp; omega) (by simp) (by simp)
    refine bl _ ?_
    intro H8 bs v8 lst8 st8 o8 h88 hl8 n8 k8
    rw [List.length_replicate] at hl8
    have gE8 := (k8 H6.n (by omega) (by omega) (fun h => by have := hwE _ h; omega)).trans gE
    have l8 := bx2_ld gE8
    have ps := fun H => pS2_tb ⟨4 + x, w, bs⟩ H a1
    have w3 := wrI (i + 1) (by omega) (by omega)
    simp only [ofArgs, run_seq, run_block, run_ops, run_skip, run_exit, run_ret, thenQ_normal, thenQ_exit, thenQ_ret, blockQ_normal, blockQ_exit, blockQ_ret, retQ_ret, retQ_normal, ops_nil, ops_none, got_some, ops_wT, ops_wTn, ops_wF, ops_wFn, ops_wU, dops_wT, dops_wTn, dops_wF, dops_wFn, dops_wU, run_condT, run_condF, alt2_int, altB_bool, altI_int, altBB_bool, v_min, v_max, v_not, v_neg, optEv_none, optEv_some, isSome'_none, isSome'_some, pExt0, pExt1, pExt2, Bool.false_and, Bool.true_and, Bool.not_true, Bool.not_false, cond_true, cond_false, dops_nil, dops_none, xval_call, v_mov, v_bin, v_len, v_ext, v_idxA, v_ld, v_st, v_app, v_appN, v_cvs, v_bs1, pBs1, v_slc, v_conv, v_fld, v_fldA, v_new, v_box, v_mks, v_copy, v_isnil, v_nilck, v_pick, ev, evs_nil, evs_cons, fr_get_cons, fr_put_nil, fr_put_cons, fr_put_some, fr_put_none, fr_keep_nil, fr_keep_cons, fr_has_nil, fr_has_cons, Option.bind_some, Option.map_some, xbin, ibin, xresult_eq, xress_nil, xress_tmp, resV, ex_some, if_true, if_false, ite_true, ite_false, reduceIte, reduceCtorEq, Nat.reduceEqDiff, Nat.reduceLT, Nat.reduceLeDiff, Int.reduceLT, Int.reduceLE, Nat.zero_add, Nat.reduceAdd, Bool.false_eq_true, decide_eq_true_eq, decide_eq_false_iff_not, true_implies, false_implies, and_true, true_and, l8, v_bs21, ps]
    have z8 : ∀ d, d < H2.n → d ≠ B → H8.get d = H.get d := fun d hd hdB => (k8 d (by omega) hdB (fun h => by have := hwE _ h; omega)).trans ((xE.2 d (by omega)).trans ((x6.2 d hd).trans (gg d hdB)))
    have ho8 : OutT n1 H8 vo lo := ho.same (by omega) fun b hb hb2 => z8 b (by omega) (by omega)
    have hvol : ∀ b, inB vo b → b < H.n := fun b hb => ho.own.1.lt hb
    refine OL.push [⟨4 + x, w, bs⟩] ho8.own (by omega) (by show ([.int .i64 (4 + x), w] : List Value).all one = true; simp [a1, show ∀ t, one (.int .i64 t) = true from fun _ => rfl]) 32 (by decide) (by simp; omega) ?_
    intro vo' H9 o9 k9 g9 new9 n9
    simp only [ofArgs, run_seq, run_block, run_ops, run_skip, run_exit, run_ret, thenQ_normal, thenQ_exit, thenQ_ret, blockQ_normal, blockQ_exit, blockQ_ret, retQ_ret, retQ_normal, ops_nil, ops_none, got_some, ops_wT, ops_wTn, ops_wF, ops_wFn, ops_wU, dops_wT, dops_wTn, dops_wF, dops_wFn, dops_wU, run_condT, run_condF, alt2_int, altB_bool, altI_int, altBB_bool, v_min, v_max, v_not, v_neg, optEv_none, optEv_some, isSome'_none, isSome'_some, pExt0, pExt1, pExt2, Bool.false_and, Bool.true_and, Bool.not_true, Bool.not_false, cond_true, cond_false, dops_nil, dops_none, xval_call, v_mov, v_bin, v_len, v_ext, v_idxA, v_ld, v_st, v_app, v_appN, v_cvs, v_bs1, pBs1, v_slc, v_conv, v_fld, v_fldA, v_new, v_box, v_mks, v_copy, v_isnil, v_nilck, v_pick, ev, evs_nil, evs_cons, fr_get_cons, fr_put_nil, fr_put_cons, fr_put_some, fr_put_none, fr_keep_nil, fr_keep_cons, fr_has_nil, fr_has_cons, Option.bind_some, Option.map_some, xbin, ibin, xresult_eq, xress_nil, xress_tmp, resV, ex_some, if_true, if_false, ite_true, ite_false, reduceIte, reduceCtorEq, Nat.reduceEqDiff, Nat.reduceLT, Nat.reduceLeDiff, Int.reduceLT, Int.reduceLE, Nat.zero_add, Nat.reduceAdd, Bool.false_eq_true, decide_eq_true_eq, decide_eq_false_iff_not, true_implies, false_implies, and_true, true_and, w3]
    subst hL
    have hwvo : ∀ b, inB w b → ¬ inB vo b := fun b h1 h2 => by have := hwE b h1; have := hvol b h2; omega
    have hwb : ∀ b, inB w b → n1 ≤ b := fun b h1 => by have := hwE b h1; omega
    have st9 : Strm nS H9 B v8 lst8 := st8.same' (by omega) (k9.2 B hBn) (fun b hb => k9.2 b (by omega))
    refine ih (lo ++ [⟨4 + x, w, bs⟩]) vo' _ v8 H9 (i + 1) N Q st9 ⟨o9, fun t ht => ?_, fun t ht b hb hv => ?_, fun t ht b hb => ?_⟩ (by omega) (fun t ht => ?_) (by simp; omega) (by omega) (by omega) hN ?_
    · rcases List.mem_append.1 ht with h | h
      · exact Sl.same (ho8.byt t h) n9 fun b hb => g9 b ((ho8.byt t h).lt hb) (ho.dis t h b hb)
      · simp only [List.mem_singleton] at h
        subst h
        exact Sl.same o8.1 n9 fun b hb => g9 b (o8.1.lt hb) (hwvo b hb)
    · rcases new9 b hv with h2 | h2
      · rcases List.mem_append.1 ht with h | h
        · exact ho.dis t h b hb h2
        · simp only [List.mem_singleton] at h
          subst h
          exact hwvo b hb h2
      · rcases List.mem_append.1 ht with h | h
        · have := (ho8.byt t h).lt hb; omega
        · simp only [List.mem_singleton] at h
          subst h
          have := o8.1.lt hb; omega
    · rcases List.mem_append.1 ht with h | h
      · exact ho.ge t h b hb
      · simp only [List.mem_singleton] at h
        subst h
        exact hwb b hb
    · rcases List.mem_append.1 ht with h | h
      · exact hok t h
      · simp only [List.mem_singleton] at h
        subst h
        exact ⟨by show 4 ≤ 4 + x; omega, by show 4 + x ≤ 99; omega, by show bs.length ≤ 100; omega, h88⟩
    · intro H10 vo10 lo10 o10 ok10 l10 n10 k10
      exact hq H10 vo10 lo10 o10 ok10 l10 (by omega) (fun d hd hdB => (k10 d hd hdB).trans ((k9.2 d hd).trans (z8 d (by omega) hdB)))
set_option maxHeartbeats 2000000 in
theorem blocks_ok (l : List Int) (s : Value) (H : AH) (Q : Value → AH → Prop) (hs : Ints H s l) (hq : ∀ vo lo H', OutT H.n H' vo lo → (∀ s ∈ lo, TbOk9 s) → lo.length ≤ 8 → HExt H H' → Q vo H') : Got (xc Try.prog tab 22 [s] H) Q := by
  refine got_call (res := [.tmp 2]) rfl ?_
  obtain ⟨q1, q2⟩ := slice_one hs
  have e2 := fun H => pMk1_slice H q1 q2
  have x1 := hext_push H ⟨[s], 1, false, false⟩
  have hn1 : (H.push ⟨[s], 1, false, false⟩).n = H.n + 1 := rfl
  have hst1 : Strm H.n (H.push ⟨[s], 1, false, false⟩) H.n s l := ⟨Nat.le_refl _, by omega, by rw [AH.get_push, if_pos rfl], Sl.ext x1 hs, fun b hb => Sl.lt hs hb⟩
  generalize hT : ((.seq (.ops [⟨some 40, .mov (.tmp 4), none⟩, ⟨some 2, .mov (.tmp 40), none⟩] [2]) .ret) : XCode) = T
  simp only [ofArgs, run_seq, run_block, run_ops, run_skip, run_exit, run_ret, thenQ_normal, thenQ_exit, thenQ_ret, blockQ_normal, blockQ_exit, blockQ_ret, retQ_ret, retQ_normal, ops_nil, ops_none, got_some, ops_wT, ops_wTn, ops_wF, ops_wFn, ops_wU, dops_wT, dops_wTn, dops_wF, dops_wFn, dops_wU, run_condT, run_condF, alt2_int, altB_bool, altI_int, altBB_bool, v_min, v_max, v_not, v_neg, optEv_none, optEv_some, isSome'_none, isSome'_some, pExt0, pExt1, pExt2, Bool.false_and, Bool.true_and, Bool.not_true, Bool.not_false, cond_true, cond_false, dops_nil, dops_none, xval_call, v_mov, v_bin, v_len, v_ext, v_idxA, v_ld, v_st, v_app, v_appN, v_cvs, v_bs1, pBs1, v_slc, v_conv, v_fld, v_fldA, v_new, v_box, v_mks, v_copy, v_isnil, v_nilck, v_pick, ev, evs_nil, evs_cons, fr_get_cons, fr_put_nil, fr_put_cons, fr_put_some, fr_put_none, fr_keep_nil, fr_keep_cons, fr_has_nil, fr_has_cons, Option.bind_some, Option.map_some, xbin, ibin, xresult_eq, xress_nil, xress_tmp, resV, ex_some, if_true, if_false, ite_true, ite_false, reduceIte, reduceCtorEq, Nat.reduceEqDiff, Nat.reduceLT, Nat.reduceLeDiff, Int.reduceLT, Int.reduceLE, Nat.zero_add, Nat.reduceAdd, Bool.false_eq_true, decide_eq_true_eq, decide_eq_false_iff_not, true_implies, false_implies, and_true, true_and, v_mk1, e2, box1]
  generalize H.push ⟨[s], 1, false, false⟩ = H1 at *
  refine next_ok H.n H.n s l 4 (by decide) (by decide) H1 _ hst1 ?_
  intro v3 H3 n3 g3 st3
  have z0 := Int.emod_nonneg (l.headD 0) (by decide : (4 : Int) ≠ 0)
  have z1 := Int.emod_lt_of_pos (l.headD 0) (by decide : (0 : Int) < 4)
  generalize l.headD 0 % 4 = N at *
  obtain ⟨r, hr⟩ : ∃ r : Nat, N = (r : Int) := ⟨N.toNat, by omega⟩
  refine blocks_l1 H.n H.n (H.n + 1) (by omega) r [] (.slice none 0 0) _ v3 H3 0 N _ st3 (OutT.nil _ _) (by omega) (fun t ht => by simp at ht) (by simp; omega) (by omega) (by omega) (by omega) ?_
  intro H4 vo lo o4 ok4 l4 n4 k4
  subst hT
  simp only [ofArgs, run_seq, run_block, run_ops, run_skip, run_exit, run_ret, thenQ_normal, thenQ_exit, thenQ_ret, blockQ_normal, blockQ_exit, blockQ_ret, retQ_ret, retQ_normal, ops_nil, ops_none, got_some, ops_wT, ops_wTn, ops_wF, ops_wFn, ops_wU, dops_wT, dops_wTn, dops_wF, dops_wFn, dops_wU, run_condT, run_condF, alt2_int, altB_bool, altI_int, altBB_bool, v_min, v_max, v_not, v_neg, optEv_none, optEv_some, isSome'_none, isSome'_some, pExt0, pExt1, pExt2, Bool.false_and, Bool.true_and, Bool.not_true, Bool.not_false, cond_true, cond_false, dops_nil, dops_none, xval_call, v_mov, v_bin, v_len, v_ext, v_idxA, v_ld, v_st, v_app, v_appN, v_cvs, v_bs1, pBs1, v_slc, v_conv, v_fld, v_fldA, v_new, v_box, v_mks, v_copy, v_isnil, v_nilck, v_pick, ev, evs_nil, evs_cons, fr_get_cons, fr_put_nil, fr_put_cons, fr_put_some, fr_put_none, fr_keep_nil, fr_keep_cons, fr_has_nil, fr_has_cons, Option.bind_some, Option.map_some, xbin, ibin, xresult_eq, xress_nil, xress_tmp, resV, ex_some, if_true, if_false, ite_true, ite_false, reduceIte, reduceCtorEq, Nat.reduceEqDiff, Nat.reduceLT, Nat.reduceLeDiff, Int.reduceLT, Int.reduceLE, Nat.zero_add, Nat.reduceAdd, Bool.false_eq_true, decide_eq_true_eq, decide_eq_false_iff_not, true_implies, false_implies, and_true, true_and]
  exact hq vo lo H4 (o4.le (by omega)) ok4 l4 ⟨by omega, fun d hd => (k4 d (by omega) (by omega)).trans ((g3 d (by omega)).trans (x1.2 d hd))⟩
end Go.Proofs.Ytejedmocjdcdgaa.D

set_option linter.unusedSimpArgs false
set_option linter.unusedVariables false
namespace Go.Proofs.Ytejedmocjdcdgaa.D
open Go Go.Det

/-! ### blocks are compared -/
theorem sameT_1 (n : Int) (hn : 1 ≤ n ∧ n ≤ 10) (B : Nat) (p r : TB) (H : AH) (Q : Value → AH → Prop) (hB : H.get B = some ⟨[.int .i64 n], 1, false, false⟩) (hBn : B < H.n) (hp : Byts H p.w p.bs) (hr : Byts H r.w r.bs) (hpl : p.bs.length ≤ 1000) (hu : 0 ≤ p.u ∧ p.u ≤ 1000) (hs : (n * p.u, p.bs) = toldT r) (hq : ∀ H', HExt H H' → Q (.bool true) H') :
    Got (xc Try.prog tab 74 [.agg #[.int .i64 p.u, p.w], .agg #[.int .i64 r.u, r.w], .pointer (some ⟨B, 0, none⟩)] H) Q := by
  obtain ⟨u, w, bs⟩ := p
  obtain ⟨u2, w2, bs2⟩ := r
  simp only [toldT, Prod.mk.injEq] at hs
  obtain ⟨rfl, rfl⟩ := hs
  simp only at hp hr hpl hu
  refine got_call (res := [.tmp 5]) rfl ?_
  have v1 : vcells (.agg #[.int .i64 u, w]) = [.int .i64 u, w] := rfl
  have v2 : vcells (.agg #[.int .i64 (n * u), w2]) = [.int .i64 (n * u), w2] := rfl
  have x1 := hext_push H ⟨[.int .i64 u, w], 1, false, false⟩
  have x2 := hext_push (H.push ⟨[.int .i64 u, w], 1, false, false⟩) ⟨[.int .i64 (n * u), w2], 1, false, false⟩
  have g1 : ((H.push ⟨[.int .i64 u, w], 1, false, false⟩).push ⟨[.int .i64 (n * u), w2], 1, false, false⟩).get H.n = some ⟨[.int .i64 u, w], 1, false, false⟩ := by rw [AH.get_push, if_neg (by simp), AH.get_push, if_pos rfl]
  have g2 : ((H.push ⟨[.int .i64 u, w], 1, false, false⟩).push ⟨[.int .i64 (n * u), w2], 1, false, false⟩).get (H.n + 1) = some ⟨[.int .i64 (n * u), w2], 1, false, false⟩ := by rw [AH.get_push, if_pos (by simp)]
  have hp' := Sl.ext x2 (Sl.ext x1 hp)
  have hr' := Sl.ext x2 (Sl.ext x1 hr)
  have xx := x1.trans x2
  have lb := pLd_box ((xx.2 B hBn).trans hB)
  simp only [ofArgs, run_seq, run_block, run_ops, run_skip, run_exit, run_ret, thenQ_normal, thenQ_exit, thenQ_ret, blockQ_normal, blockQ_exit, blockQ_ret, retQ_ret, retQ_normal, ops_nil, ops_none, got_some, ops_wT, ops_wTn, ops_wF, ops_wFn, ops_wU, dops_wT, dops_wTn, dops_wF, dops_wFn, dops_wU, run_condT, run_condF, alt2_int, altB_bool, altI_int, altBB_bool, v_min, v_max, v_not, v_neg, optEv_none, optEv_some, isSome'_none, isSome'_some, pExt0, pExt1, pExt2, Bool.false_and, Bool.true_and, Bool.not_true, Bool.not_false, cond_true, cond_false, dops_nil, dops_none, xval_call, v_mov, v_bin, v_len, v_ext, v_idxA, v_ld, v_st, v_app, v_appN, v_cvs, v_bs1, pBs1, v_slc, v_conv, v_fld, v_fldA, v_new, v_box, v_mks, v_copy, v_isnil, v_nilck, v_pick, ev, evs_nil, evs_cons, fr_get_cons, fr_put_nil, fr_put_cons, fr_put_some, fr_put_none, fr_keep_nil, fr_keep_cons, fr_has_nil, fr_has_cons, Option.bind_some, Option.map_some, xbin, ibin, xresult_eq, xress_nil, xress_tmp, resV, ex_some, if_true, if_false, ite_true, ite_false, reduceIte, reduceCtorEq, Nat.reduceEqDiff, Nat.reduceLT, Nat.reduceLeDiff, Int.reduceLT, Int.reduceLE, Nat.zero_add, Nat.reduceAdd, Bool.false_eq_true, decide_eq_true_eq, decide_eq_false_iff_not, true_implies, false_implies, and_true, true_and, v1, v2, AH.push_n]
  generalize (H.push ⟨[.int .i64 u, w], 1, false, false⟩).push ⟨[.int .i64 (n * u), w2], 1, false, false⟩ = H2 at *
  have a0 := bx2_0 g1
  have a1 := bx2_1 g1
  have b0 := bx2_0 g2
  have b1 := bx2_1 g2
  have m0 : 0 ≤ n * u := Int.mul_nonneg (by omega) hu.1
  have m1 : n * u ≤ 10 * 1000 := Int.mul_le_mul hn.2 hu.2 hu.1 (by omega)
  have w1 := wrI (n * u) (by omega) (by omega)
  have r1 := equalB_xc bs bs w w2 H2 hp' hr' (by omega) (by omega)
  simp only [ofArgs, run_seq, run_block, run_ops, run_skip, run_exit, run_ret, thenQ_normal, thenQ_exit, thenQ_ret, blockQ_normal, blockQ_exit, blockQ_ret, retQ_ret, retQ_normal, ops_nil, ops_none, got_some, ops_wT, ops_wTn, ops_wF, ops_wFn, ops_wU, dops_wT, dops_wTn, dops_wF, dops_wFn, dops_wU, run_condT, run_condF, alt2_int, altB_bool, altI_int, altBB_bool, v_min, v_max, v_not, v_neg, optEv_none, optEv_some, isSome'_none, isSome'_some, pExt0, pExt1, pExt2, Bool.false_and, Bool.true_and, Bool.not_true, Bool.not_false, cond_true, cond_false, dops_nil, dops_none, xval_call, v_mov, v_bin, v_len, v_ext, v_idxA, v_ld, v_st, v_app, v_appN, v_cvs, v_bs1, pBs1, v_slc, v_conv, v_fld, v_fldA, v_new, v_box, v_mks, v_copy, v_isnil, v_nilck, v_pick, ev, evs_nil, evs_cons, fr_get_cons, fr_put_nil, fr_put_cons, fr_put_some, fr_put_none, fr_keep_nil, fr_keep_cons, fr_has_nil, fr_has_cons, Option.bind_some, Option.map_some, xbin, ibin, xresult_eq, xress_nil, xress_tmp, resV, ex_some, if_true, if_false, ite_true, ite_false, reduceIte, reduceCtorEq, Nat.reduceEqDiff, Nat.reduceLT, Nat.reduceLeDiff, Int.reduceLT, Int.reduceLE, Nat.zero_add, Nat.reduceAdd, Bool.false_eq_true, decide_eq_true_eq, decide_eq_false_iff_not, true_implies, false_implies, and_true, true_and, fldA0, fldA1, lb, a0, a1, b0, b1, w1, r1, decide_true, beq_self_eq_true]
  exact hq _ xx
theorem eqT_l0 (n : Int) (hn : 1 ≤ n ∧ n ≤ 10) (B : Nat) (v u : Value) (rest : List TB) : ∀ (rest2 pre pre2 : List TB) (H : AH) (i N : Int) (Q : XExit → Fr → AH → Prop), H.get B = some ⟨[.int .i64 n], 1, false, false⟩ → B < H.n → TBs H v (pre ++ rest) → TBs H u (pre2 ++ rest2) → pre.length = pre2.length → (rest.map fun s => (n * s.u, s.bs)) = rest2.map toldT → (∀ p ∈ rest, p.bs.length ≤ 1000 ∧ 0 ≤ p.u ∧ p.u ≤ 1000) → pre.length + rest.length ≤ 100000 → i = (pre.length : Int) → N = ((pre ++ rest).length : Int) →
    (∀ H', HExt H H' → Q (.exit 0) [(1, u), (2, .func (.func 74) #[] #[.pointer (some ⟨B, 0, none⟩)]), (15, v), (16, .int .i64 N), (17, .int .i64 N), (18, .bool false)] H') →
    Run Try.prog tab (.loop xslices_EqualFunc_Stape_Block_Stape_Block_tape_Block_tape_Block_l0) [(1, u), (2, .func (.func 74) #[] #[.pointer (some ⟨B, 0, none⟩)]), (15, v), (16, .int .i64 N), (17, .int .i64 i)] H Q := by
  induction rest with
  | nil =>
    intro rest2 pre pre2 H i N Q hB hBn hv hu hpp hm hb hl hi hN hq
    rw [run_loop]
    generalize hL : XCode.loop xslices_EqualFunc_Stape_Block_Stape_Block_tape_Block_tape_Block_l0 = L
    have hiN : i = N := by simp at hN; omega
    subst hiN
    have hf : ¬ i < i := by omega
    simp only [xslices_EqualFunc_Stape_Block_Stape_Block_tape_Block_tape_Block_l0, ofArgs, run_seq, run_block, run_ops, run_skip, run_exit, run_ret, thenQ_normal, thenQ_exit, thenQ_ret, blockQ_normal, blockQ_exit, blockQ_ret, retQ_ret, retQ_normal, ops_nil, ops_none, got_some, ops_wT, ops_wTn, ops_wF, ops_wFn, ops_wU, dops_wT, dops_wTn, dops_wF, dops_wFn, dops_wU, run_condT, run_condF, alt2_int, altB_bool, altI_int, altBB_bool, v_min, v_max, v_not, v_neg, optEv_none, optEv_some, isSome'_none, isSome'_some, pExt0, pExt1, pExt2, Bool.false_and, Bool.true_and, Bool.not_true, Bool.not_false, cond_true, cond_false, dops_nil, dops_none, xval_call, v_mov, v_bin, v_len, v_ext, v_idxA, v_ld, v_st, v_app, v_appN, v_cvs, v_bs1, pBs1, v_slc, v_conv, v_fld, v_fldA, v_new, v_box, v_mks, v_copy, v_isnil, v_nilck, v_pick, ev, evs_nil, evs_cons, fr_get_cons, fr_put_nil, fr_put_cons, fr_put_some, fr_put_none, fr_keep_nil, fr_keep_cons, fr_has_nil, fr_has_cons, Option.bind_some, Option.map_some, xbin, ibin, xresult_eq, xress_nil, xress_tmp, resV, ex_some, if_true, if_false, ite_true, ite_false, reduceIte, reduceCtorEq, Nat.reduceEqDiff, Nat.reduceLT, Nat.reduceLeDiff, Int.reduceLT, Int.reduceLE, Nat.zero_add, Nat.reduceAdd, Bool.false_eq_true, decide_eq_true_eq, decide_eq_false_iff_not, true_implies, false_implies, and_true, true_and, hf, decide_false]
    exact hq H (HExt.refl H)
  | cons p rest ih =>
    intro rest2 pre pre2 H i N Q hB hBn hv hu hpp hm hb hl hi hN hq
    cases rest2 with
    | nil => simp at hm
    | cons r rest2 =>
      simp only [List.map_cons, List.cons.injEq] at hm
      simp only [List.length_cons] at hl
      rw [run_loop]
      generalize hL : XCode.loop xslices_EqualFunc_Stape_Block_Stape_Block_tape_Block_tape_Block_l0 = L
      have hlt : i < N := by simp at hN; omega
      have e1 := tbs_idx hv i hi
      have e2 := tbs_ld hv
      have hbp := hv.2 p (by simp)
      have hbr := hu.2 r (by simp)
      obtain ⟨o1, o2⟩ := slice_one hbp
      obtain ⟨q1, q2⟩ := slice_one hbr
      have st := bT_st H p.u p.w o1
      have hx := bT_ext H p.u p.w
      have f2 := tbs_ld (hu.ext hx)
      have f1' := tbs_idx (hu.ext hx) i (by omega)
      have st2 := bT_st (bT H p.u p.w) r.u r.w q1
      have hx2 := bT_ext (bT H p.u p.w) r.u r.w
      have g1 := (hx2.2 H.n (by rw [bT_n]; omega)).trans (bT_get H p.u p.w)
      have g2 := bT_get (bT H p.u p.w) r.u r.w
      have l1 := bx2_ld g1
      have l2 := bx2_ld g2
      have w3 := wrI (i + 1) (by omega) (by omega)
      have ea : (#[] : Array Value).toList ++ [.agg #[.int .i64 p.u, p.w], .agg #[.int .i64 r.u, r.w]] ++ (#[Value.pointer (some ⟨B, 0, none⟩)] : Array Value).toList = [.agg #[.int .i64 p.u, p.w], .agg #[.int .i64 r.u, r.w], .pointer (some ⟨B, 0, none⟩)] := rfl
      simp only [xslices_EqualFunc_Stape_Block_Stape_Block_tape_Block_tape_Block_l0, ofArgs, run_seq, run_block, run_ops, run_skip, run_exit, run_ret, thenQ_normal, thenQ_exit, thenQ_ret, blockQ_normal, blockQ_exit, blockQ_ret, retQ_ret, retQ_normal, ops_nil, ops_none, got_some, ops_wT, ops_wTn, ops_wF, ops_wFn, ops_wU, dops_wT, dops_wTn, dops_wF, dops_wFn, dops_wU, run_condT, run_condF, alt2_int, altB_bool, altI_int, altBB_bool, v_min, v_max, v_not, v_neg, optEv_none, optEv_some, isSome'_none, isSome'_some, pExt0, pExt1, pExt2, Bool.false_and, Bool.true_and, Bool.not_true, Bool.not_false, cond_true, cond_false, dops_nil, dops_none, xval_call, v_mov, v_bin, v_len, v_ext, v_idxA, v_ld, v_st, v_app, v_appN, v_cvs, v_bs1, pBs1, v_slc, v_conv, v_fld, v_fldA, v_new, v_box, v_mks, v_copy, v_isnil, v_nilck, v_pick, ev, evs_nil, evs_cons, fr_get_cons, fr_put_nil, fr_put_cons, fr_put_some, fr_put_none, fr_keep_nil, fr_keep_cons, fr_has_nil, fr_has_cons, Option.bind_some, Option.map_some, xbin, ibin, xresult_eq, xress_nil, xress_tmp, resV, ex_some, if_true, if_false, ite_true, ite_false, reduceIte, reduceCtorEq, Nat.reduceEqDiff, Nat.reduceLT, Nat.reduceLeDiff, Int.reduceLT, Int.reduceLE, Nat.zero_add, Nat.reduceAdd, Bool.false_eq_true, decide_eq_true_eq, decide_eq_false_iff_not, true_implies, false_implies, and_true, true_and, hlt, decide_true, e1, e2, st, f1', f2, st2, l1, l2, v_callv, pCallV_func, ea]
      have xx0 := hx.trans hx2
      refine sameT_1 n hn B p r _ _ ((xx0.2 B hBn).trans hB) (Nat.lt_of_lt_of_le hBn xx0.1) (Sl.ext xx0 hbp) (Sl.ext xx0 hbr) (hb p (by simp)).1 (hb p (by simp)).2 hm.1 ?_
      intro H' x'
      simp only [ofArgs, run_seq, run_block, run_ops, run_skip, run_exit, run_ret, thenQ_normal, thenQ_exit, thenQ_ret, blockQ_normal, blockQ_exit, blockQ_ret, retQ_ret, retQ_normal, ops_nil, ops_none, got_some, ops_wT, ops_wTn, ops_wF, ops_wFn, ops_wU, dops_wT, dops_wTn, dops_wF, dops_wFn, dops_wU, run_condT, run_condF, alt2_int, altB_bool, altI_int, altBB_bool, v_min, v_max, v_not, v_neg, optEv_none, optEv_some, isSome'_none, isSome'_some, pExt0, pExt1, pExt2, Bool.false_and, Bool.true_and, Bool.not_true, Bool.not_false, cond_true, cond_false, dops_nil, dops_none, xval_call, v_mov, v_bin, v_len, v_ext, v_idxA, v_ld, v_st, v_app, v_appN, v_cvs, v_bs1, pBs1, v_slc, v_conv, v_fld, v_fldA, v_new, v_box, v_mks, v_copy, v_isnil, v_nilck, v_pick, ev, evs_nil, evs_cons, fr_get_cons, fr_put_nil, fr_put_cons, fr_put_some, fr_put_none, fr_keep_nil, fr_keep_cons, fr_has_nil, fr_has_cons, Option.bind_some, Option.map_some, xbin, ibin, xresult_eq, xress_nil, xress_tmp, resV, ex_some, if_true, if_false, ite_true, ite_false, reduceIte, reduceCtorEq, Nat.reduceEqDiff, Nat.reduceLT, Nat.reduceLeDiff, Int.reduceLT, Int.reduceLE, Nat.zero_add, Nat.reduceAdd, Bool.false_eq_true, decide_eq_true_eq, decide_eq_false_iff_not, true_implies, false_implies, and_true, true_and, w3]
      subst hL
      have xx := xx0.trans x'
      refine ih rest2 (pre ++ [p]) (pre2 ++ [r]) H' (i + 1) N Q ((xx.2 B hBn).trans hB) (Nat.lt_of_lt_of_le hBn xx.1) (by rw [← List.append_cons]; exact hv.ext xx) (by rw [← List.append_cons]; exact hu.ext xx) (by simp; omega) hm.2 (fun p hp => hb p (by simp [hp])) (by simp; omega) (by simp; omega) (by simpa using hN) ?_
      intro H2 x2
      exact hq H2 (xx.trans x2)
theorem sameT_ok (n : Int) (hn : 1 ≤ n ∧ n ≤ 10) (v u : Value) (l l2 : List TB) (H : AH) (Q : Value → AH → Prop) (hv : TBs H v l) (hu : TBs H u l2) (hm : (l.map fun s => (n * s.u, s.bs)) = l2.map toldT) (hb : ∀ p ∈ l, p.bs.length ≤ 1000 ∧ 0 ≤ p.u ∧ p.u ≤ 1000) (hl : l.length ≤ 10000) (hq : ∀ H', HExt H H' → Q (.bool true) H') :
    Got (xc Try.prog tab 26 [v, u, .int .i64 n] H) Q := by
  refine got_call (res := [.tmp 6]) rfl ?_
  have e3 : vcells (.int .i64 n) = [.int .i64 n] := rfl
  have x1 := hext_push H ⟨[.int .i64 n], 1, false, false⟩
  have gB : (H.push ⟨[.int .i64 n], 1, false, false⟩).get H.n = some ⟨[.int .i64 n], 1, false, false⟩ := by rw [AH.get_push, if_pos rfl]
  have n1 : (H.push ⟨[.int .i64 n], 1, false, false⟩).n = H.n + 1 := rfl
  have hv1 := hv.ext x1
  have hu1 := hu.ext x1
  have ea : ([] : List Value).toArray = #[] := rfl
  have eb : [Value.pointer (some ⟨H.n, 0, none⟩)].toArray = #[.pointer (some ⟨H.n, 0, none⟩)] := rfl
  simp only [ofArgs, run_seq, run_block, run_ops, run_skip, run_exit, run_ret, thenQ_normal, thenQ_exit, thenQ_ret, blockQ_normal, blockQ_exit, blockQ_ret, retQ_ret, retQ_normal, ops_nil, ops_none, got_some, ops_wT, ops_wTn, ops_wF, ops_wFn, ops_wU, dops_wT, dops_wTn, dops_wF, dops_wFn, dops_wU, run_condT, run_condF, alt2_int, altB_bool, altI_int, altBB_bool, v_min, v_max, v_not, v_neg, optEv_none, optEv_some, isSome'_none, isSome'_some, pExt0, pExt1, pExt2, Bool.false_and, Bool.true_and, Bool.not_true, Bool.not_false, cond_true, cond_false, dops_nil, dops_none, xval_call, v_mov, v_bin, v_len, v_ext, v_idxA, v_ld, v_st, v_app, v_appN, v_cvs, v_bs1, pBs1, v_slc, v_conv, v_fld, v_fldA, v_new, v_box, v_mks, v_copy, v_isnil, v_nilck, v_pick, ev, evs_nil, evs_cons, fr_get_cons, fr_put_nil, fr_put_cons, fr_put_some, fr_put_none, fr_keep_nil, fr_keep_cons, fr_has_nil, fr_has_cons, Option.bind_some, Option.map_some, xbin, ibin, xresult_eq, xress_nil, xress_tmp, resV, ex_some, if_true, if_false, ite_true, ite_false, reduceIte, reduceCtorEq, Nat.reduceEqDiff, Nat.reduceLT, Nat.reduceLeDiff, Int.reduceLT, Int.reduceLE, Nat.zero_add, Nat.reduceAdd, Bool.false_eq_true, decide_eq_true_eq, decide_eq_false_iff_not, true_implies, false_implies, and_true, true_and, e3, v_mkf, ea, eb]
  generalize H.push ⟨[.int .i64 n], 1, false, false⟩ = H1 at *
  refine got_call (res := [.tmp 6]) rfl ?_
  have e1 : pLen v H1 = some (.int .i64 (l.length : Int), H1) := pLen_ok hv1.1
  have e2 : pLen u H1 = some (.int .i64 (l2.length : Int), H1) := pLen_ok hu1.1
  have hll : l2.length = l.length := by have := congrArg List.length hm; simpa using this.symm
  rw [hll] at e2
  simp only [ofArgs, run_seq, run_block, run_ops, run_skip, run_exit, run_ret, thenQ_normal, thenQ_exit, thenQ_ret, blockQ_normal, blockQ_exit, blockQ_ret, retQ_ret, retQ_normal, ops_nil, ops_none, got_some, ops_wT, ops_wTn, ops_wF, ops_wFn, ops_wU, dops_wT, dops_wTn, dops_wF, dops_wFn, dops_wU, run_condT, run_condF, alt2_int, altB_bool, altI_int, altBB_bool, v_min, v_max, v_not, v_neg, optEv_none, optEv_some, isSome'_none, isSome'_some, pExt0, pExt1, pExt2, Bool.false_and, Bool.true_and, Bool.not_true, Bool.not_false, cond_true, cond_false, dops_nil, dops_none, xval_call, v_mov, v_bin, v_len, v_ext, v_idxA, v_ld, v_st, v_app, v_appN, v_cvs, v_bs1, pBs1, v_slc, v_conv, v_fld, v_fldA, v_new, v_box, v_mks, v_copy, v_isnil, v_nilck, v_pick, ev, evs_nil, evs_cons, fr_get_cons, fr_put_nil, fr_put_cons, fr_put_some, fr_put_none, fr_keep_nil, fr_keep_cons, fr_has_nil, fr_has_cons, Option.bind_some, Option.map_some, xbin, ibin, xresult_eq, xress_nil, xress_tmp, resV, ex_some, if_true, if_false, ite_true, ite_false, reduceIte, reduceCtorEq, Nat.reduceEqDiff, Nat.reduceLT, Nat.reduceLeDiff, Int.reduceLT, Int.reduceLE, Nat.zero_add, Nat.reduceAdd, Bool.false_eq_true, decide_eq_true_eq, decide_eq_false_iff_not, true_implies, false_implies, and_true, true_and, e1, e2, bne_self_eq_false]
  refine eqT_l0 n hn H.n v u l l2 [] [] H1 _ _ _ gB (by omega) (by simpa using hv1) (by simpa using hu1) rfl hm hb (by simp; omega) (by simp) (by simp) ?_
  intro H' x
  simp only [ofArgs, run_seq, run_block, run_ops, run_skip, run_exit, run_ret, thenQ_normal, thenQ_exit, thenQ_ret, blockQ_normal, blockQ_exit, blockQ_ret, retQ_ret, retQ_normal, ops_nil, ops_none, got_some, ops_wT, ops_wTn, ops_wF, ops_wFn, ops_wU, dops_wT, dops_wTn, dops_wF, dops_wFn, dops_wU, run_condT, run_condF, alt2_int, altB_bool, altI_int, altBB_bool, v_min, v_max, v_not, v_neg, optEv_none, optEv_some, isSome'_none, isSome'_some, pExt0, pExt1, pExt2, Bool.false_and, Bool.true_and, Bool.not_true, Bool.not_false, cond_true, cond_false, dops_nil, dops_none, xval_call, v_mov, v_bin, v_len, v_ext, v_idxA, v_ld, v_st, v_app, v_appN, v_cvs, v_bs1, pBs1, v_slc, v_conv, v_fld, v_fldA, v_new, v_box, v_mks, v_copy, v_isnil, v_nilck, v_pick, ev, evs_nil, evs_cons, fr_get_cons, fr_put_nil, fr_put_cons, fr_put_some, fr_put_none, fr_keep_nil, fr_keep_cons, fr_has_nil, fr_has_cons, Option.bind_some, Option.map_some, xbin, ibin, xresult_eq, xress_nil, xress_tmp, resV, ex_some, if_true, if_false, ite_true, ite_false, reduceIte, reduceCtorEq, Nat.reduceEqDiff, Nat.reduceLT, Nat.reduceLeDiff, Int.reduceLT, Int.reduceLE, Nat.zero_add, Nat.reduceAdd, Bool.false_eq_true, decide_eq_true_eq, decide_eq_false_iff_not, true_implies, false_implies, and_true, true_and]
  exact hq H' (x1.trans x)
end Go.Proofs.Ytejedmocjdcdgaa.D

set_option linter.unusedSimpArgs false
set_option linter.unusedVariables false
namespace Go.Proofs.Ytejedmocjdcdgaa.D
open Go Go.Det

theorem tape_l0 (s2 va vt : Value) (rest : List TB) : ∀ (pre : List TB) (H : AH) (i N m : Int) (Q : XExit → Fr → AH → Prop), TBs H va (pre ++ rest) → (∀ s ∈ rest, TbOk9 s) → 4 ≤ m → m ≤ 800 → pre.length + rest.length ≤ 1000 → i = (pre.length : Int) → N = ((pre ++ rest).length : Int) →
    (∀ H' m', HExt H H' → 4 ≤ m' → m' ≤ m → (∀ s ∈ rest, m' ≤ s.u) → Q (.exit 0) [(1, s2), (7, va), (8, vt), (15, .int .i64 m'), (78, va), (79, .int .i64 N), (80, .int .i64 N), (81, .bool false)] H') →
    Run Try.prog tab (.loop xbakekeep2_TapeBack_l0) [(1, s2), (7, va), (8, vt), (15, .int .i64 m), (78, va), (79, .int .i64 N), (80, .int .i64 i)] H Q := by
  induction rest with
  | nil =>
    intro pre H i N m Q hv hok hm4 hm8 hl hi hN hq
    rw [run_loop]
    generalize hL : XCode.loop xbakekeep2_TapeBack_l0 = L
    have hiN : i = N := by simp at hN; omega
    subst hiN
    have hf : ¬ i < i := by omega
    simp only [xbakekeep2_TapeBack_l0, ofArgs, run_seq, run_block, run_ops, run_skip, run_exit, run_ret, thenQ_normal, thenQ_exit, thenQ_ret, blockQ_normal, blockQ_exit, blockQ_ret, retQ_ret, retQ_normal, ops_nil, ops_none, got_some, ops_wT, ops_wTn, ops_wF, ops_wFn, ops_wU, dops_wT, dops_wTn, dops_wF, dops_wFn, dops_wU, run_condT, run_condF, alt2_int, altB_bool, altI_int, altBB_bool, v_min, v_max, v_not, v_neg, optEv_none, optEv_some, isSome'_none, isSome'_some, pExt0, pExt1, pExt2, Bool.false_and, Bool.true_and, Bool.not_true, Bool.not_false, cond_true, cond_false, dops_nil, dops_none, xval_call, v_mov, v_bin, v_len, v_ext, v_idxA, v_ld, v_st, v_app, v_appN, v_cvs, v_bs1, pBs1, v_slc, v_conv, v_fld, v_fldA, v_new, v_box, v_mks, v_copy, v_isnil, v_nilck, v_pick, ev, evs_nil, evs_cons, fr_get_cons, fr_put_nil, fr_put_cons, fr_put_some, fr_put_none, fr_keep_nil, fr_keep_cons, fr_has_nil, fr_has_cons, Option.bind_some, Option.map_some, xbin, ibin, xresult_eq, xress_nil, xress_tmp, resV, ex_some, if_true, if_false, ite_true, ite_false, reduceIte, reduceCtorEq, Nat.reduceEqDiff, Nat.reduceLT, Nat.reduceLeDiff, Int.reduceLT, Int.reduceLE, Nat.zero_add, Nat.reduceAdd, Bool.false_eq_true, decide_eq_true_eq, decide_eq_false_iff_not, true_implies, false_implies, and_true, true_and, hf, decide_false]
    exact hq H m (HExt.refl H) hm4 (Int.le_refl _) (fun s hs => by simp at hs)
  | cons s rest ih =>
    intro pre H i N m Q hv hok hm4 hm8 hl hi hN hq
    rw [run_loop]
    generalize hL : XCode.loop xbakekeep2_TapeBack_l0 = L
    simp only [List.length_cons] at hl
    have hlt : i < N := by simp at hN; omega
    have e1 := tbs_idx hv i hi
    have e2 := tbs_ld hv
    have hb := hv.2 s (by simp)
    obtain ⟨o1, o2⟩ := slice_one hb
    have st := bT_st H s.u s.w o1
    have hx := bT_ext H s.u s.w
    have l0 := bx2_0 (bT_get H s.u s.w)
    obtain ⟨s1, s2', s3, s4⟩ := hok s (by simp)
    have w3 := wrI (i + 1) (by omega) (by omega)
    have key : ∀ m', m' = (if s.u < m then s.u else m) → Run Try.prog tab L [(1, s2), (7, va), (8, vt), (15, .int .i64 m'), (78, va), (79, .int .i64 N), (80, .int .i64 (i + 1))] (bT H s.u s.w) Q := by
      intro m' hm'
      have h1 : 4 ≤ m' ∧ m' ≤ m ∧ m' ≤ s.u := by rw [hm']; split <;> omega
      subst hL
      refine ih (pre ++ [s]) _ (i + 1) N m' Q (by rw [← List.append_cons]; exact hv.ext hx) (fun y hy => hok y (by simp [hy])) h1.1 (by omega) (by simp; omega) (by simp; omega) (by simpa using hN) ?_
      intro H2 m2 x2 a1 a2 a3
      refine hq H2 m2 (hx.trans x2) a1 (by omega) fun y hy => ?_
      rcases List.mem_cons.1 hy with h | h
      · subst h; omega
      · exact a3 y h
    simp only [xbakekeep2_TapeBack_l0, ofArgs, run_seq, run_block, run_ops, run_skip, run_exit, run_ret, thenQ_normal, thenQ_exit, thenQ_ret, blockQ_normal, blockQ_exit, blockQ_ret, retQ_ret, retQ_normal, ops_nil, ops_none, got_some, ops_wT, ops_wTn, ops_wF, ops_wFn, ops_wU, dops_wT, dops_wTn, dops_wF, dops_wFn, dops_wU, run_condT, run_condF, alt2_int, altB_bool, altI_int, altBB_bool, v_min, v_max, v_not, v_neg, optEv_none, optEv_some, isSome'_none, isSome'_some, pExt0, pExt1, pExt2, Bool.false_and, Bool.true_and, Bool.not_true, Bool.not_false, cond_true, cond_false, dops_nil, dops_none, xval_call, v_mov, v_bin, v_len, v_ext, v_idxA, v_ld, v_st, v_app, v_appN, v_cvs, v_bs1, pBs1, v_slc, v_conv, v_fld, v_fldA, v_new, v_box, v_mks, v_copy, v_isnil, v_nilck, v_pick, ev, evs_nil, evs_cons, fr_get_cons, fr_put_nil, fr_put_cons, fr_put_some, fr_put_none, fr_keep_nil, fr_keep_cons, fr_has_nil, fr_has_cons, Option.bind_some, Option.map_some, xbin, ibin, xresult_eq, xress_nil, xress_tmp, resV, ex_some, if_true, if_false, ite_true, ite_false, reduceIte, reduceCtorEq, Nat.reduceEqDiff, Nat.reduceLT, Nat.reduceLeDiff, Int.reduceLT, Int.reduceLE, Nat.zero_add, Nat.reduceAdd, Bool.false_eq_true, decide_eq_true_eq, decide_eq_false_iff_not, true_implies, false_implies, and_true, true_and, hlt, decide_true, e1, e2, st, fldA0, l0, w3]
    exact key _ rfl
theorem tape_l1 (n0 : Nat) (va vt : Value) (m : Int) (hm4 : 4 ≤ m) (hm8 : m ≤ 800) (s : Value) (rest : List Int) : ∀ (pre acc : List Int) (v : Value) (H : AH) (i N : Int) (Q : XExit → Fr → AH → Prop), Ints H s (pre ++ rest) → (∀ b, inB s b → b < n0) → OwnI n0 H v acc → n0 ≤ H.n →
    pre.length + rest.length ≤ 17592186044416 → acc.length + rest.length ≤ 17592186044416 → i = (pre.length : Int) → N = ((pre ++ rest).length : Int) →
    (∀ v' H', OwnI n0 H' v' (acc ++ (rest.map fun a => a % (m / 4 + 1) - m / 8)) → Keep n0 H H' → Q (.exit 2) [(7, va), (8, vt), (15, .int .i64 m), (18, v'), (89, s), (90, .int .i64 N), (91, .int .i64 N), (92, .bool false)] H') →
    Run Try.prog tab (.loop xbakekeep2_TapeBack_l1) [(7, va), (8, vt), (15, .int .i64 m), (18, v), (89, s), (90, .int .i64 N), (91, .int .i64 i)] H Q := by
  induction rest with
  | nil =>
    intro pre acc v H i N Q hs hsb ho hn hl hal hi hN hq
    rw [run_loop]
    generalize hL : XCode.loop xbakekeep2_TapeBack_l1 = L
    have hiN : i = N := by simp at hN; omega
    subst hiN
    have hf : ¬ i < i := by omega
    simp only [xbakekeep2_TapeBack_l1, ofArgs, run_seq, run_block, run_ops, run_skip, run_exit, run_ret, thenQ_normal, thenQ_exit, thenQ_ret, blockQ_normal, blockQ_exit, blockQ_ret, retQ_ret, retQ_normal, ops_nil, ops_none, got_some, ops_wT, ops_wTn, ops_wF, ops_wFn, ops_wU, dops_wT, dops_wTn, dops_wF, dops_wFn, dops_wU, run_condT, run_condF, alt2_int, altB_bool, altI_int, altBB_bool, v_min, v_max, v_not, v_neg, optEv_none, optEv_some, isSome'_none, isSome'_some, pExt0, pExt1, pExt2, Bool.false_and, Bool.true_and, Bool.not_true, Bool.not_false, cond_true, cond_false, dops_nil, dops_none, xval_call, v_mov, v_bin, v_len, v_ext, v_idxA, v_ld, v_st, v_app, v_appN, v_cvs, v_bs1, pBs1, v_slc, v_conv, v_fld, v_fldA, v_new, v_box, v_mks, v_copy, v_isnil, v_nilck, v_pick, ev, evs_nil, evs_cons, fr_get_cons, fr_put_nil, fr_put_cons, fr_put_some, fr_put_none, fr_keep_nil, fr_keep_cons, fr_has_nil, fr_has_cons, Option.bind_some, Option.map_some, xbin, ibin, xresult_eq, xress_nil, xress_tmp, resV, ex_some, if_true, if_false, ite_true, ite_false, reduceIte, reduceCtorEq, Nat.reduceEqDiff, Nat.reduceLT, Nat.reduceLeDiff, Int.reduceLT, Int.reduceLE, Nat.zero_add, Nat.reduceAdd, Bool.false_eq_true, decide_eq_true_eq, decide_eq_false_iff_not, true_implies, false_implies, and_true, true_and, hf, decide_false]
    have := hq v H (by simpa using ho) (.refl _ _)
    simpa using this
  | cons a rest ih =>
    intro pre acc v H i N Q hs hsb ho hn hl hal hi hN hq
    simp only [List.length_cons] at hl hal
    rw [run_loop]
    generalize hL : XCode.loop xbakekeep2_TapeBack_l1 = L
    have hlt : i < N := by simp at hN; omega
    have e1 := ints_idx hs i pre.length hi (by simp)
    have e2 := ints_ld hs pre.length a (by simp)
    have e4 := wrI (i + 1) (by omega) (by omega)
    have d4 : Int.tdiv m 4 = m / 4 := Int.tdiv_eq_ediv_of_nonneg (by omega)
    have d8 : Int.tdiv m 8 = m / 8 := Int.tdiv_eq_ediv_of_nonneg (by omega)
    have z4 : ¬ (4 : Int) = 0 := by decide
    have z8 : ¬ (8 : Int) = 0 := by decide
    have q4 := wrI (m / 4) (by omega) (by omega)
    have q8 := wrI (m / 8) (by omega) (by omega)
    have q5 := wrI (m / 4 + 1) (by omega) (by omega)
    have m0 : 0 < m / 4 + 1 := by omega
    have h0 := Int.emod_nonneg a (by omega : m / 4 + 1 ≠ 0)
    have h3 := Int.emod_lt_of_pos a m0
    have e6 := wrI (a % (m / 4 + 1) - m / 8) (by omega) (by omega)
    have e7 := below_xc a (m / 4 + 1) H m0 (by omega)
    simp only [xbakekeep2_TapeBack_l1, ofArgs, run_seq, run_block, run_ops, run_skip, run_exit, run_ret, thenQ_normal, thenQ_exit, thenQ_ret, blockQ_normal, blockQ_exit, blockQ_ret, retQ_ret, retQ_normal, ops_nil, ops_none, got_some, ops_wT, ops_wTn, ops_wF, ops_wFn, ops_wU, dops_wT, dops_wTn, dops_wF, dops_wFn, dops_wU, run_condT, run_condF, alt2_int, altB_bool, altI_int, altBB_bool, v_min, v_max, v_not, v_neg, optEv_none, optEv_some, isSome'_none, isSome'_some, pExt0, pExt1, pExt2, Bool.false_and, Bool.true_and, Bool.not_true, Bool.not_false, cond_true, cond_false, dops_nil, dops_none, xval_call, v_mov, v_bin, v_len, v_ext, v_idxA, v_ld, v_st, v_app, v_appN, v_cvs, v_bs1, pBs1, v_slc, v_conv, v_fld, v_fldA, v_new, v_box, v_mks, v_copy, v_isnil, v_nilck, v_pick, ev, evs_nil, evs_cons, fr_get_cons, fr_put_nil, fr_put_cons, fr_put_some, fr_put_none, fr_keep_nil, fr_keep_cons, fr_has_nil, fr_has_cons, Option.bind_some, Option.map_some, xbin, ibin, xresult_eq, xress_nil, xress_tmp, resV, ex_some, if_true, if_false, ite_true, ite_false, reduceIte, reduceCtorEq, Nat.reduceEqDiff, Nat.reduceLT, Nat.reduceLeDiff, Int.reduceLT, Int.reduceLE, Nat.zero_add, Nat.reduceAdd, Bool.false_eq_true, decide_eq_true_eq, decide_eq_false_iff_not, true_implies, false_implies, and_true, true_and, hlt, decide_true, e1, e2, e4, d4, d8, z4, z8, q4, q8, q5, e6, e7]
    refine app_one ho hn (by omega) fun v' H' ho' hs' => ?_
    have hk := hs'.keep ho hn
    subst hL
    refine ih (pre ++ [a]) (acc ++ [a % (m / 4 + 1) - m / 8]) v' H' (i + 1) N Q ((Ints.keep hs hk hsb).app1) hsb ho' (by have := hk.1; omega) (by simp; omega) (by simp; omega) (by simp; omega) (by simpa using hN) ?_
    intro v2 H2 ho2 hk2
    exact hq v2 H2 (by simpa using ho2) (hk.trans hk2)
end Go.Proofs.Ytejedmocjdcdgaa.D
