/- What functions that the law reaches compute, on a heap of the run's own: the conditions stand in each theorem. -/
import Derived.Test.YtkhjmmidaihbhaaMfE
set_option linter.unusedSimpArgs false
set_option linter.unusedVariables false
namespace Go.Proofs.Ytkhjmmidaihbhaa.D
open Go Go.Det

set_option maxHeartbeats 8000000 in
/-- a mark is read, ahead of all bytes -/
theorem rp_mark (n0 : Nat) (vd vc : Value) (q suf : List Bool) (n : Nat) (hqn : q.length = 2 * n) (hn : n ≤ 100000) (hn9 : 9 ≤ n) (hvd : ∀ b, inB vd b → b < n0) (hvc : ∀ b, inB vc b → b < n0) (hqe : q = msym 161 true 8 true ++ suf) (H : AH) (Q : XExit → Fr → AH → Prop) (hd : Boos H vd (dataL (2 * n) q n)) (hc : Boos H vc (clockL (2 * n) q n)) (hnn : n0 ≤ H.n)
    (hq : ∀ vo' H', OutS n0 H' vo' true [] → Keep n0 H H' → Run Try.prog tab (.loop xmfm_ReadParts_l1) [(8, vd), (9, vc), (10, vo'), (11, .bool true), (12, .int .i64 ((8 * 1 : Nat) : Int))] H' Q) :
    Run Try.prog tab (.loop xmfm_ReadParts_l1) [(8, vd), (9, vc), (10, .slice none 0 0), (11, .bool true), (12, .int .i64 0)] H Q := by
  rw [run_loop]
  generalize hL : XCode.loop xmfm_ReadParts_l1 = LL
  rw [hL] at hq
  have e1 := boos_len hd
  rw [dataL_len] at e1
  have w1 : IntKind.i64.wrap (((n : Nat) : Int) - 1) = ((n - 1 : Nat) : Int) := by rw [wrI _ (by omega) (by omega)]; omega
  have hlt : (0 : Int) < ((n - 1 : Nat) : Int) := by omega
  have hdk : ∀ k, k < 8 → (dataL (2 * n) q n)[0 + k]? = some ((161 : Nat).testBit (7 - k)) := by
    intro k hk
    have h1 := (msym_get 161 true 8 true k hk).1
    rw [dataL_get _ _ _ _ (by omega), hqe, List.getD_eq_getElem?_getD, show 2 * (0 + k) + 1 = 2 * k + 1 by omega, List.getElem?_append_left (by rw [msym_len]; omega), h1]
    have : 2 * k + 1 < 2 * n := by omega
    simp [this]
  have hck : ∀ k, k < 8 → (clockL (2 * n) q n)[0 + k]? = some (!((161 : Nat).testBit (7 - k)) && !(lastAt 161 true k) && !(true && decide (k = 5))) := by
    intro k hk
    have h1 := (msym_get 161 true 8 true k hk).2
    rw [clockL_get _ _ _ _ (by omega), hqe, List.getD_eq_getElem?_getD, show 2 * (0 + k) = 2 * k by omega, List.getElem?_append_left (by rw [msym_len]; omega), h1]
    have : 2 * k < 2 * n := by omega
    have hk5 : decide (8 - 1 - k = 2) = decide (k = 5) := by
      apply decide_eq_decide.2; omega
    simp only [this, decide_true, Bool.true_and, Option.getD_some, lastAt, hk5]
  have d5 := hdk 5 (by omega)
  have d4 := hdk 4 (by omega)
  have c5 := hck 5 (by omega)
  have t5 : (161 : Nat).testBit (7 - 5) = false := by decide
  have t4 : (161 : Nat).testBit (7 - 4) = false := by decide
  have b5 : (!((161 : Nat).testBit (7 - 5)) && !(lastAt 161 true 5) && !(true && decide (5 = 5))) = false := by decide
  rw [t5] at d5
  rw [t4] at d4
  rw [b5] at c5
  have wx5 : IntKind.i64.wrap (0 + 5) = 5 := rfl
  have wx4 : IntKind.i64.wrap (0 + 4) = 4 := rfl
  have wx8 : IntKind.i64.wrap (0 + 8) = ((8 * 1 : Nat) : Int) := rfl
  have i5 := boos_idx hd 5 5 rfl (by rw [dataL_len]; omega)
  have i4 := boos_idx hd 4 4 rfl (by rw [dataL_len]; omega)
  have j5 := boos_idx hc 5 5 rfl (by rw [clockL_len]; omega)
  have v5 := boos_ld hd 5 _ d5
  have v4 := boos_ld hd 4 _ d4
  have u5 := boos_ld hc 5 _ c5
  have inner := rp_l0 vd vc (.slice none 0 0) (dataL (2 * n) q n) (clockL (2 * n) q n) 0 161 (by omega) true true H hd hc (by rw [dataL_len]; omega) (by rw [clockL_len]; omega) (by omega) hdk hck 8 0 0
  have h00 : 161 >>> (8 - 0) = 0 := by decide
  have hl0 : lastAt 161 true 0 = true := rfl
  have ht0 : (161 : Nat).testBit 0 = true := by decide
  have n0int : ((0 : Nat) : Int) = 0 := rfl
  have n161 : ((161 : Nat) : Int) = 161 := rfl
  rw [h00, hl0, ht0, n0int, n161] at inner
  have hbuild : ∀ (fr : Fr) (H : AH), xval Try.prog (xc Try.prog tab) ⟨some 127, .build [.bool false, .slice none 0 0] [(0, 1, .const (.bool true))], none⟩ fr H = some (.agg #[.bool true, .slice none 0 0], H) := fun _ _ => rfl
  simp only [xmfm_ReadParts_l1, ofArgs, run_seq, run_block, run_ops, run_skip, run_exit, run_ret, thenQ_normal, thenQ_exit, thenQ_ret, blockQ_normal, blockQ_exit, blockQ_ret, retQ_ret, retQ_normal, ops_nil, ops_none, got_some, ops_wT, ops_wTn, ops_wF, ops_wFn, ops_wU, dops_wT, dops_wTn, dops_wF, dops_wFn, dops_wU, run_condT, run_condF, alt2_int, altB_bool, altI_int, altBB_bool, v_min, v_max, v_not, v_neg, optEv_none, optEv_some, isSome'_none, isSome'_some, pExt0, pExt1, pExt2, Bool.false_and, Bool.true_and, Bool.not_true, Bool.not_false, cond_true, cond_false, dops_nil, dops_none, xval_call, v_mov, v_bin, v_len, v_ext, v_idxA, v_ld, v_st, v_app, v_appN, v_cvs, v_bs1, pBs1, v_slc, v_conv, v_fld, v_fldA, v_new, v_box, v_mks, v_copy, v_isnil, v_nilck, v_pick, ev, evs_nil, evs_cons, fr_get_cons, fr_put_nil, fr_put_cons, fr_put_some, fr_put_none, fr_keep_nil, fr_keep_cons, fr_has_nil, fr_has_cons, Option.bind_some, Option.map_some, xbin, ibin, xresult_eq, xress_nil, xress_tmp, resV, ex_some, if_true, if_false, ite_true, ite_false, reduceIte, reduceCtorEq, Nat.reduceEqDiff, Nat.reduceLT, Nat.reduceLeDiff, Int.reduceLT, Int.reduceLE, Nat.zero_add, Nat.reduceAdd, Bool.false_eq_true, decide_eq_true_eq, decide_eq_false_iff_not, true_implies, false_implies, and_true, true_and, e1, w1, hlt, decide_true, wx5, wx4, i5, i4, j5, v5, v4, u5]
  refine inner _ (by omega) rfl ?_
  simp only [ofArgs, run_seq, run_block, run_ops, run_skip, run_exit, run_ret, thenQ_normal, thenQ_exit, thenQ_ret, blockQ_normal, blockQ_exit, blockQ_ret, retQ_ret, retQ_normal, ops_nil, ops_none, got_some, ops_wT, ops_wTn, ops_wF, ops_wFn, ops_wU, dops_wT, dops_wTn, dops_wF, dops_wFn, dops_wU, run_condT, run_condF, alt2_int, altB_bool, altI_int, altBB_bool, v_min, v_max, v_not, v_neg, optEv_none, optEv_some, isSome'_none, isSome'_some, pExt0, pExt1, pExt2, Bool.false_and, Bool.true_and, Bool.not_true, Bool.not_false, cond_true, cond_false, dops_nil, dops_none, xval_call, v_mov, v_bin, v_len, v_ext, v_idxA, v_ld, v_st, v_app, v_appN, v_cvs, v_bs1, pBs1, v_slc, v_conv, v_fld, v_fldA, v_new, v_box, v_mks, v_copy, v_isnil, v_nilck, v_pick, ev, evs_nil, evs_cons, fr_get_cons, fr_put_nil, fr_put_cons, fr_put_some, fr_put_none, fr_keep_nil, fr_keep_cons, fr_has_nil, fr_has_cons, Option.bind_some, Option.map_some, xbin, ibin, xresult_eq, xress_nil, xress_tmp, resV, ex_some, if_true, if_false, ite_true, ite_false, reduceIte, reduceCtorEq, Nat.reduceEqDiff, Nat.reduceLT, Nat.reduceLeDiff, Int.reduceLT, Int.reduceLE, Nat.zero_add, Nat.reduceAdd, Bool.false_eq_true, decide_eq_true_eq, decide_eq_false_iff_not, true_implies, false_implies, and_true, true_and, bne_self_eq_false, hbuild, v_bs21, pS2_sl]
  refine first_part n0 H true (.slice none 0 0) [] hnn (Own.nil _ _ _) _ ?_
  intro vo' H' o' k'
  simp only [ofArgs, run_seq, run_block, run_ops, run_skip, run_exit, run_ret, thenQ_normal, thenQ_exit, thenQ_ret, blockQ_normal, blockQ_exit, blockQ_ret, retQ_ret, retQ_normal, ops_nil, ops_none, got_some, ops_wT, ops_wTn, ops_wF, ops_wFn, ops_wU, dops_wT, dops_wTn, dops_wF, dops_wFn, dops_wU, run_condT, run_condF, alt2_int, altB_bool, altI_int, altBB_bool, v_min, v_max, v_not, v_neg, optEv_none, optEv_some, isSome'_none, isSome'_some, pExt0, pExt1, pExt2, Bool.false_and, Bool.true_and, Bool.not_true, Bool.not_false, cond_true, cond_false, dops_nil, dops_none, xval_call, v_mov, v_bin, v_len, v_ext, v_idxA, v_ld, v_st, v_app, v_appN, v_cvs, v_bs1, pBs1, v_slc, v_conv, v_fld, v_fldA, v_new, v_box, v_mks, v_copy, v_isnil, v_nilck, v_pick, ev, evs_nil, evs_cons, fr_get_cons, fr_put_nil, fr_put_cons, fr_put_some, fr_put_none, fr_keep_nil, fr_keep_cons, fr_has_nil, fr_has_cons, Option.bind_some, Option.map_some, xbin, ibin, xresult_eq, xress_nil, xress_tmp, resV, ex_some, if_true, if_false, ite_true, ite_false, reduceIte, reduceCtorEq, Nat.reduceEqDiff, Nat.reduceLT, Nat.reduceLeDiff, Int.reduceLT, Int.reduceLE, Nat.zero_add, Nat.reduceAdd, Bool.false_eq_true, decide_eq_true_eq, decide_eq_false_iff_not, true_implies, false_implies, and_true, true_and, wx8]
  exact hq vo' H' o' k'

theorem size0_ok (H : AH) (Q : Value → AH → Prop) (hq : Q (.int .i64 0) H) : Got (xc Try.prog tab 80 [.slice none 0 0] H) Q := by
  refine got_call (res := [.tmp 2]) rfl ?_
  have el : pLen (.slice none 0 0) H = some (.int .i64 0, H) := rfl
  simp only [ofArgs, run_seq, run_block, run_ops, run_skip, run_exit, run_ret, thenQ_normal, thenQ_exit, thenQ_ret, blockQ_normal, blockQ_exit, blockQ_ret, retQ_ret, retQ_normal, ops_nil, ops_none, got_some, ops_wT, ops_wTn, ops_wF, ops_wFn, ops_wU, dops_wT, dops_wTn, dops_wF, dops_wFn, dops_wU, run_condT, run_condF, alt2_int, altB_bool, altI_int, altBB_bool, v_min, v_max, v_not, v_neg, optEv_none, optEv_some, isSome'_none, isSome'_some, pExt0, pExt1, pExt2, Bool.false_and, Bool.true_and, Bool.not_true, Bool.not_false, cond_true, cond_false, dops_nil, dops_none, xval_call, v_mov, v_bin, v_len, v_ext, v_idxA, v_ld, v_st, v_app, v_appN, v_cvs, v_bs1, pBs1, v_slc, v_conv, v_fld, v_fldA, v_new, v_box, v_mks, v_copy, v_isnil, v_nilck, v_pick, ev, evs_nil, evs_cons, fr_get_cons, fr_put_nil, fr_put_cons, fr_put_some, fr_put_none, fr_keep_nil, fr_keep_cons, fr_has_nil, fr_has_cons, Option.bind_some, Option.map_some, xbin, ibin, xresult_eq, xress_nil, xress_tmp, resV, ex_some, if_true, if_false, ite_true, ite_false, reduceIte, reduceCtorEq, Nat.reduceEqDiff, Nat.reduceLT, Nat.reduceLeDiff, Int.reduceLT, Int.reduceLE, Nat.zero_add, Nat.reduceAdd, Bool.false_eq_true, decide_eq_true_eq, decide_eq_false_iff_not, true_implies, false_implies, and_true, true_and, el]
  rw [run_loop]
  generalize hL : XCode.loop xmfm_size_l0 = LL
  simp only [xmfm_size_l0, ofArgs, run_seq, run_block, run_ops, run_skip, run_exit, run_ret, thenQ_normal, thenQ_exit, thenQ_ret, blockQ_normal, blockQ_exit, blockQ_ret, retQ_ret, retQ_normal, ops_nil, ops_none, got_some, ops_wT, ops_wTn, ops_wF, ops_wFn, ops_wU, dops_wT, dops_wTn, dops_wF, dops_wFn, dops_wU, run_condT, run_condF, alt2_int, altB_bool, altI_int, altBB_bool, v_min, v_max, v_not, v_neg, optEv_none, optEv_some, isSome'_none, isSome'_some, pExt0, pExt1, pExt2, Bool.false_and, Bool.true_and, Bool.not_true, Bool.not_false, cond_true, cond_false, dops_nil, dops_none, xval_call, v_mov, v_bin, v_len, v_ext, v_idxA, v_ld, v_st, v_app, v_appN, v_cvs, v_bs1, pBs1, v_slc, v_conv, v_fld, v_fldA, v_new, v_box, v_mks, v_copy, v_isnil, v_nilck, v_pick, ev, evs_nil, evs_cons, fr_get_cons, fr_put_nil, fr_put_cons, fr_put_some, fr_put_none, fr_keep_nil, fr_keep_cons, fr_has_nil, fr_has_cons, Option.bind_some, Option.map_some, xbin, ibin, xresult_eq, xress_nil, xress_tmp, resV, ex_some, if_true, if_false, ite_true, ite_false, reduceIte, reduceCtorEq, Nat.reduceEqDiff, Nat.reduceLT, Nat.reduceLeDiff, Int.reduceLT, Int.reduceLE, Nat.zero_add, Nat.reduceAdd, Bool.false_eq_true, decide_eq_true_eq, decide_eq_false_iff_not, true_implies, false_implies, and_true, true_and, Int.lt_irrefl, decide_false]
  exact hq
theorem sizeO_ok (n0 : Nat) (vo : Value) (m : Bool) (bs : List Int) (H : AH) (Q : Value → AH → Prop) (ho : OutS n0 H vo m bs) (hl : bs.length ≤ 2000) (hq : ∀ (x : Int) H', ¬ x > 2400 → HExt H H' → Q (.int .i64 x) H') : Got (xc Try.prog tab 80 [vo] H) Q := by
  rcases ho with ⟨rfl, rfl, rfl⟩ | ⟨vb, ov, ob, hdis⟩
  · exact size0_ok H Q (hq 0 H (by omega) (.refl H))
  · refine size1_ok m bs vo vb H Q ov.1 ob.1 hl ?_
    intro H' x'
    exact hq _ H' (by split <;> omega) x'
theorem OutS.ext {n0 : Nat} {H H' : AH} {vo : Value} {m : Bool} {bs : List Int} (h : OutS n0 H vo m bs) (hx : HExt H H') : OutS n0 H' vo m bs := by
  rcases h with h | ⟨vb, ov, ob, hdis⟩
  · exact .inl h
  · exact .inr ⟨vb, Own.ext hx ov, Own.ext hx ob, hdis⟩
theorem OutS.le {n0 n1 : Nat} {H : AH} {vo : Value} {m : Bool} {bs : List Int} (h : OutS n1 H vo m bs) (hl : n0 ≤ n1) : OutS n0 H vo m bs := by
  rcases h with h | ⟨vb, ov, ob, hdis⟩
  · exact .inl h
  · exact .inr ⟨vb, Own.le ov hl, Own.le ob hl, hdis⟩

theorem readP_ok (mark : Bool) (a : List Int) (cell : Int) (vt : Value) (H : AH) (Q : Value → AH → Prop) (hs : Ints H vt (pul cell (gaps (full mark a)).1)) (h8 : B8 a) (hl : a.length ≤ 1000) (hc : 2 ≤ cell) (hc2 : cell ≤ 1000)
    (hq : ∀ vo H', OutS H.n H' vo mark a → HExt H H' → Q (.tuple [vo, .int .i64 0].toArray) H') : Got (xc Try.prog tab 79 [vt, .int .i64 cell] H) Q := by
  refine got_call (res := [.tmp 4, .tmp 5]) rfl ?_
  have gb := full_gb mark a
  have glen := (gaps_len (full mark a)).1
  have flen := full_len mark a
  have hsm : (if mark then 1 else 0) ≤ 1 := by split <;> omega
  generalize hS : (if mark then 1 else 0) = sm at flen hsm
  have hexp := expand_gaps (full mark a)
  rw [gb.2] at hexp
  simp only [List.replicate_zero, List.append_nil] at hexp
  have hpc := pul_cells cell hc hc2 (gaps (full mark a)).1 (fun g hg => by have := gb.1 g hg; omega)
  have hpl : (pul cell (gaps (full mark a)).1).length = (gaps (full mark a)).1.length := by simp [pul]
  simp only [ofArgs, run_seq, run_block, run_ops, run_skip, run_exit, run_ret, thenQ_normal, thenQ_exit, thenQ_ret, blockQ_normal, blockQ_exit, blockQ_ret, retQ_ret, retQ_normal, ops_nil, ops_none, got_some, ops_wT, ops_wTn, ops_wF, ops_wFn, ops_wU, dops_wT, dops_wTn, dops_wF, dops_wFn, dops_wU, run_condT, run_condF, alt2_int, altB_bool, altI_int, altBB_bool, v_min, v_max, v_not, v_neg, optEv_none, optEv_some, isSome'_none, isSome'_some, pExt0, pExt1, pExt2, Bool.false_and, Bool.true_and, Bool.not_true, Bool.not_false, cond_true, cond_false, dops_nil, dops_none, xval_call, v_mov, v_bin, v_len, v_ext, v_idxA, v_ld, v_st, v_app, v_appN, v_cvs, v_bs1, pBs1, v_slc, v_conv, v_fld, v_fldA, v_new, v_box, v_mks, v_copy, v_isnil, v_nilck, v_pick, ev, evs_nil, evs_cons, fr_get_cons, fr_put_nil, fr_put_cons, fr_put_some, fr_put_none, fr_keep_nil, fr_keep_cons, fr_has_nil, fr_has_cons, Option.bind_some, Option.map_some, xbin, ibin, xresult_eq, xress_nil, xress_tmp, resV, ex_some, if_true, if_false, ite_true, ite_false, reduceIte, reduceCtorEq, Nat.reduceEqDiff, Nat.reduceLT, Nat.reduceLeDiff, Int.reduceLT, Int.reduceLE, Nat.zero_add, Nat.reduceAdd, Bool.false_eq_true, decide_eq_true_eq, decide_eq_false_iff_not, true_implies, false_implies, and_true, true_and]
  refine cells_ok (pul cell (gaps (full mark a)).1) cell 4 vt H _ hs (by omega) hc hc2 (by omega) (pul_ok cell hc hc2 _ (fun g hg => by have := gb.1 g hg; omega)) ?_ ?_
  · intro p hp
    have h1 : celOf cell p ∈ (pul cell (gaps (full mark a)).1).map (celOf cell) := List.mem_map_of_mem hp
    rw [hpc] at h1
    exact gb.1 _ h1
  rw [hpc]
  intro vl H1 o1 x1
  simp only [ofArgs, run_seq, run_block, run_ops, run_skip, run_exit, run_ret, thenQ_normal, thenQ_exit, thenQ_ret, blockQ_normal, blockQ_exit, blockQ_ret, retQ_ret, retQ_normal, ops_nil, ops_none, got_some, ops_wT, ops_wTn, ops_wF, ops_wFn, ops_wU, dops_wT, dops_wTn, dops_wF, dops_wFn, dops_wU, run_condT, run_condF, alt2_int, altB_bool, altI_int, altBB_bool, v_min, v_max, v_not, v_neg, optEv_none, optEv_some, isSome'_none, isSome'_some, pExt0, pExt1, pExt2, Bool.false_and, Bool.true_and, Bool.not_true, Bool.not_false, cond_true, cond_false, dops_nil, dops_none, xval_call, v_mov, v_bin, v_len, v_ext, v_idxA, v_ld, v_st, v_app, v_appN, v_cvs, v_bs1, pBs1, v_slc, v_conv, v_fld, v_fldA, v_new, v_box, v_mks, v_copy, v_isnil, v_nilck, v_pick, ev, evs_nil, evs_cons, fr_get_cons, fr_put_nil, fr_put_cons, fr_put_some, fr_put_none, fr_keep_nil, fr_keep_cons, fr_has_nil, fr_has_cons, Option.bind_some, Option.map_some, xbin, ibin, xresult_eq, xress_nil, xress_tmp, resV, ex_some, if_true, if_false, ite_true, ite_false, reduceIte, reduceCtorEq, Nat.reduceEqDiff, Nat.reduceLT, Nat.reduceLeDiff, Int.reduceLT, Int.reduceLE, Nat.zero_add, Nat.reduceAdd, Bool.false_eq_true, decide_eq_true_eq, decide_eq_false_iff_not, true_implies, false_implies, and_true, true_and, bne_self_eq_false]
  refine bits_ok (gaps (full mark a)).1 (8 * (sm + a.length) + 1) vl H1 _ o1.ints (fun g hg => (gb.1 g hg).1) (by omega) (by rw [hexp]; exact flen) (by omega) (by omega) (by omega) ?_
  intro vd vc H2 od oc x2
  rw [hexp] at od oc
  have hvd : ∀ b, inB vd b → b < H2.n := fun b hb => od.1.lt hb
  have hvc : ∀ b, inB vc b → b < H2.n := fun b hb => oc.1.lt hb
  -- what follows the loop
  have fin : ∀ vo H3, OutS H2.n H3 vo mark a → Keep H2.n H2 H3 → ∀ last j, (blockQ 0 (thenQ (fun fr H => True) fun _ _ _ => True)) (.exit 0) [(8, vd), (9, vc), (10, vo), (11, last), (12, j), (40, .bool false)] H3 → True := fun _ _ _ _ _ _ _ => trivial
  clear fin
  have clk : ∀ H3, Keep H2.n H2 H3 → pLen vd H3 = some (.int .i64 ((8 * (sm + a.length) + 1 : Nat) : Int), H3) ∧ pIdx 1 vc (.int .i64 ((8 * (sm + a.length) : Nat) : Int)) H3 = some (ptrAt vc (8 * (sm + a.length)), H3) ∧ pLd none (ptrAt vc (8 * (sm + a.length))) H3 = some (.bool false, H3) := by
    intro H3 k3
    have d3 : Boos H3 vd _ := Sl.keep k3 od.1 hvd
    have c3 : Boos H3 vc _ := Sl.keep k3 oc.1 hvc
    have e := boos_len d3
    rw [dataL_len] at e
    refine ⟨e, boos_idx c3 _ _ rfl (by rw [clockL_len]; omega), boos_ld c3 _ false ?_⟩
    rw [clockL_get _ _ _ _ (by omega)]
    have : (full mark a).getD (2 * (8 * (sm + a.length))) false = false := by
      have hf : full mark a = ((if mark then msym 161 true 8 true else []) ++ syms a true) ++ [false, true] := by unfold full; rfl
      have hpl : ((if mark then msym 161 true 8 true else []) ++ syms a true).length = 2 * (8 * (sm + a.length)) := by
        have := flen; rw [hf, List.length_append] at this; simp at this ⊢; omega
      rw [hf, List.getD_eq_getElem?_getD, List.getElem?_append_right (by omega), hpl, Nat.sub_self]
      rfl
    rw [this]; simp
  have w1 : IntKind.i64.wrap (((8 * (sm + a.length) + 1 : Nat) : Int) - 1) = ((8 * (sm + a.length) : Nat) : Int) := by rw [wrI _ (by omega) (by omega)]; omega
  cases mark
  · obtain rfl : sm = 0 := by simpa using hS.symm
    simp only [ofArgs, run_seq, run_block, run_ops, run_skip, run_exit, run_ret, thenQ_normal, thenQ_exit, thenQ_ret, blockQ_normal, blockQ_exit, blockQ_ret, retQ_ret, retQ_normal, ops_nil, ops_none, got_some, ops_wT, ops_wTn, ops_wF, ops_wFn, ops_wU, dops_wT, dops_wTn, dops_wF, dops_wFn, dops_wU, run_condT, run_condF, alt2_int, altB_bool, altI_int, altBB_bool, v_min, v_max, v_not, v_neg, optEv_none, optEv_some, isSome'_none, isSome'_some, pExt0, pExt1, pExt2, Bool.false_and, Bool.true_and, Bool.not_true, Bool.not_false, cond_true, cond_false, dops_nil, dops_none, xval_call, v_mov, v_bin, v_len, v_ext, v_idxA, v_ld, v_st, v_app, v_appN, v_cvs, v_bs1, pBs1, v_slc, v_conv, v_fld, v_fldA, v_new, v_box, v_mks, v_copy, v_isnil, v_nilck, v_pick, ev, evs_nil, evs_cons, fr_get_cons, fr_put_nil, fr_put_cons, fr_put_some, fr_put_none, fr_keep_nil, fr_keep_cons, fr_has_nil, fr_has_cons, Option.bind_some, Option.map_some, xbin, ibin, xresult_eq, xress_nil, xress_tmp, resV, ex_some, if_true, if_false, ite_true, ite_false, reduceIte, reduceCtorEq, Nat.reduceEqDiff, Nat.reduceLT, Nat.reduceLeDiff, Int.reduceLT, Int.reduceLE, Nat.zero_add, Nat.reduceAdd, Bool.false_eq_true, decide_eq_true_eq, decide_eq_false_iff_not, true_implies, false_implies, and_true, true_and, bne_self_eq_false]
    refine rp_l1 H2.n vd vc (full false a) (8 * (0 + a.length) + 1) flen (by omega) hvd hvc false a [] 0 true [] (.slice none 0 0) H2 _ od.1 oc.1 h8 (by simp [full]) (by simp) (by omega) (.inl ⟨rfl, rfl, rfl⟩) (Nat.le_refl _) (by simp; omega) ?_
    intro vo H3 last j o3 k3
    obtain ⟨c1, c2, c3⟩ := clk H3 k3
    simp only [Nat.zero_add] at c1 c2 c3 w1
    simp only [ofArgs, run_seq, run_block, run_ops, run_skip, run_exit, run_ret, thenQ_normal, thenQ_exit, thenQ_ret, blockQ_normal, blockQ_exit, blockQ_ret, retQ_ret, retQ_normal, ops_nil, ops_none, got_some, ops_wT, ops_wTn, ops_wF, ops_wFn, ops_wU, dops_wT, dops_wTn, dops_wF, dops_wFn, dops_wU, run_condT, run_condF, alt2_int, altB_bool, altI_int, altBB_bool, v_min, v_max, v_not, v_neg, optEv_none, optEv_some, isSome'_none, isSome'_some, pExt0, pExt1, pExt2, Bool.false_and, Bool.true_and, Bool.not_true, Bool.not_false, cond_true, cond_false, dops_nil, dops_none, xval_call, v_mov, v_bin, v_len, v_ext, v_idxA, v_ld, v_st, v_app, v_appN, v_cvs, v_bs1, pBs1, v_slc, v_conv, v_fld, v_fldA, v_new, v_box, v_mks, v_copy, v_isnil, v_nilck, v_pick, ev, evs_nil, evs_cons, fr_get_cons, fr_put_nil, fr_put_cons, fr_put_some, fr_put_none, fr_keep_nil, fr_keep_cons, fr_has_nil, fr_has_cons, Option.bind_some, Option.map_some, xbin, ibin, xresult_eq, xress_nil, xress_tmp, resV, ex_some, if_true, if_false, ite_true, ite_false, reduceIte, reduceCtorEq, Nat.reduceEqDiff, Nat.reduceLT, Nat.reduceLeDiff, Int.reduceLT, Int.reduceLE, Nat.zero_add, Nat.reduceAdd, Bool.false_eq_true, decide_eq_true_eq, decide_eq_false_iff_not, true_implies, false_implies, and_true, true_and, c1, w1, c2, c3]
    refine sizeO_ok H2.n vo false a H3 _ (by simpa using o3) (by omega) ?_
    intro x H4 hx x4
    simp only [ofArgs, run_seq, run_block, run_ops, run_skip, run_exit, run_ret, thenQ_normal, thenQ_exit, thenQ_ret, blockQ_normal, blockQ_exit, blockQ_ret, retQ_ret, retQ_normal, ops_nil, ops_none, got_some, ops_wT, ops_wTn, ops_wF, ops_wFn, ops_wU, dops_wT, dops_wTn, dops_wF, dops_wFn, dops_wU, run_condT, run_condF, alt2_int, altB_bool, altI_int, altBB_bool, v_min, v_max, v_not, v_neg, optEv_none, optEv_some, isSome'_none, isSome'_some, pExt0, pExt1, pExt2, Bool.false_and, Bool.true_and, Bool.not_true, Bool.not_false, cond_true, cond_false, dops_nil, dops_none, xval_call, v_mov, v_bin, v_len, v_ext, v_idxA, v_ld, v_st, v_app, v_appN, v_cvs, v_bs1, pBs1, v_slc, v_conv, v_fld, v_fldA, v_new, v_box, v_mks, v_copy, v_isnil, v_nilck, v_pick, ev, evs_nil, evs_cons, fr_get_cons, fr_put_nil, fr_put_cons, fr_put_some, fr_put_none, fr_keep_nil, fr_keep_cons, fr_has_nil, fr_has_cons, Option.bind_some, Option.map_some, xbin, ibin, xresult_eq, xress_nil, xress_tmp, resV, ex_some, if_true, if_false, ite_true, ite_false, reduceIte, reduceCtorEq, Nat.reduceEqDiff, Nat.reduceLT, Nat.reduceLeDiff, Int.reduceLT, Int.reduceLE, Nat.zero_add, Nat.reduceAdd, Bool.false_eq_true, decide_eq_true_eq, decide_eq_false_iff_not, true_implies, false_implies, and_true, true_and, hx, decide_false]
    have xn := (x1.trans x2).1
    exact hq vo H4 ((OutS.ext (by simpa using o3) x4).le xn) (Keep.trans (n0 := H.n) (x1.trans x2) (Keep.trans (k3.le xn) (HExt.keep x4 (by have := k3.1; omega))))
  · obtain rfl : sm = 1 := by simpa using hS.symm
    simp only [ofArgs, run_seq, run_block, run_ops, run_skip, run_exit, run_ret, thenQ_normal, thenQ_exit, thenQ_ret, blockQ_normal, blockQ_exit, blockQ_ret, retQ_ret, retQ_normal, ops_nil, ops_none, got_some, ops_wT, ops_wTn, ops_wF, ops_wFn, ops_wU, dops_wT, dops_wTn, dops_wF, dops_wFn, dops_wU, run_condT, run_condF, alt2_int, altB_bool, altI_int, altBB_bool, v_min, v_max, v_not, v_neg, optEv_none, optEv_some, isSome'_none, isSome'_some, pExt0, pExt1, pExt2, Bool.false_and, Bool.true_and, Bool.not_true, Bool.not_false, cond_true, cond_false, dops_nil, dops_none, xval_call, v_mov, v_bin, v_len, v_ext, v_idxA, v_ld, v_st, v_app, v_appN, v_cvs, v_bs1, pBs1, v_slc, v_conv, v_fld, v_fldA, v_new, v_box, v_mks, v_copy, v_isnil, v_nilck, v_pick, ev, evs_nil, evs_cons, fr_get_cons, fr_put_nil, fr_put_cons, fr_put_some, fr_put_none, fr_keep_nil, fr_keep_cons, fr_has_nil, fr_has_cons, Option.bind_some, Option.map_some, xbin, ibin, xresult_eq, xress_nil, xress_tmp, resV, ex_some, if_true, if_false, ite_true, ite_false, reduceIte, reduceCtorEq, Nat.reduceEqDiff, Nat.reduceLT, Nat.reduceLeDiff, Int.reduceLT, Int.reduceLE, Nat.zero_add, Nat.reduceAdd, Bool.false_eq_true, decide_eq_true_eq, decide_eq_false_iff_not, true_implies, false_implies, and_true, true_and, bne_self_eq_false]
    refine rp_mark H2.n vd vc (full true a) (syms a true ++ [false, true]) (8 * (1 + a.length) + 1) flen (by omega) (by omega) hvd hvc (by simp [full]) H2 _ od.1 oc.1 (Nat.le_refl _) ?_
    intro vo1 H25 o25 k25
    refine rp_l1 H2.n vd vc (full true a) (8 * (1 + a.length) + 1) flen (by omega) hvd hvc true a (msym 161 true 8 true) 1 true [] vo1 H25 _ (Sl.keep k25 od.1 hvd) (Sl.keep k25 oc.1 hvc) h8 (by simp [full]) (by rw [msym_len]) (by omega) o25 k25.1 (by simp; omega) ?_
    intro vo H3 last j o3 k3'
    have k3 := k25.trans k3'
    obtain ⟨c1, c2, c3⟩ := clk H3 k3
    simp only [ofArgs, run_seq, run_block, run_ops, run_skip, run_exit, run_ret, thenQ_normal, thenQ_exit, thenQ_ret, blockQ_normal, blockQ_exit, blockQ_ret, retQ_ret, retQ_normal, ops_nil, ops_none, got_some, ops_wT, ops_wTn, ops_wF, ops_wFn, ops_wU, dops_wT, dops_wTn, dops_wF, dops_wFn, dops_wU, run_condT, run_condF, alt2_int, altB_bool, altI_int, altBB_bool, v_min, v_max, v_not, v_neg, optEv_none, optEv_some, isSome'_none, isSome'_some, pExt0, pExt1, pExt2, Bool.false_and, Bool.true_and, Bool.not_true, Bool.not_false, cond_true, cond_false, dops_nil, dops_none, xval_call, v_mov, v_bin, v_len, v_ext, v_idxA, v_ld, v_st, v_app, v_appN, v_cvs, v_bs1, pBs1, v_slc, v_conv, v_fld, v_fldA, v_new, v_box, v_mks, v_copy, v_isnil, v_nilck, v_pick, ev, evs_nil, evs_cons, fr_get_cons, fr_put_nil, fr_put_cons, fr_put_some, fr_put_none, fr_keep_nil, fr_keep_cons, fr_has_nil, fr_has_cons, Option.bind_some, Option.map_some, xbin, ibin, xresult_eq, xress_nil, xress_tmp, resV, ex_some, if_true, if_false, ite_true, ite_false, reduceIte, reduceCtorEq, Nat.reduceEqDiff, Nat.reduceLT, Nat.reduceLeDiff, Int.reduceLT, Int.reduceLE, Nat.zero_add, Nat.reduceAdd, Bool.false_eq_true, decide_eq_true_eq, decide_eq_false_iff_not, true_implies, false_implies, and_true, true_and, c1, w1, c2, c3]
    refine sizeO_ok H2.n vo true a H3 _ (by simpa using o3) (by omega) ?_
    intro x H4 hx x4
    simp only [ofArgs, run_seq, run_block, run_ops, run_skip, run_exit, run_ret, thenQ_normal, thenQ_exit, thenQ_ret, blockQ_normal, blockQ_exit, blockQ_ret, retQ_ret, retQ_normal, ops_nil, ops_none, got_some, ops_wT, ops_wTn, ops_wF, ops_wFn, ops_wU, dops_wT, dops_wTn, dops_wF, dops_wFn, dops_wU, run_condT, run_condF, alt2_int, altB_bool, altI_int, altBB_bool, v_min, v_max, v_not, v_neg, optEv_none, optEv_some, isSome'_none, isSome'_some, pExt0, pExt1, pExt2, Bool.false_and, Bool.true_and, Bool.not_true, Bool.not_false, cond_true, cond_false, dops_nil, dops_none, xval_call, v_mov, v_bin, v_len, v_ext, v_idxA, v_ld, v_st, v_app, v_appN, v_cvs, v_bs1, pBs1, v_slc, v_conv, v_fld, v_fldA, v_new, v_box, v_mks, v_copy, v_isnil, v_nilck, v_pick, ev, evs_nil, evs_cons, fr_get_cons, fr_put_nil, fr_put_cons, fr_put_some, fr_put_none, fr_keep_nil, fr_keep_cons, fr_has_nil, fr_has_cons, Option.bind_some, Option.map_some, xbin, ibin, xresult_eq, xress_nil, xress_tmp, resV, ex_some, if_true, if_false, ite_true, ite_false, reduceIte, reduceCtorEq, Nat.reduceEqDiff, Nat.reduceLT, Nat.reduceLeDiff, Int.reduceLT, Int.reduceLE, Nat.zero_add, Nat.reduceAdd, Bool.false_eq_true, decide_eq_true_eq, decide_eq_false_iff_not, true_implies, false_implies, and_true, true_and, hx, decide_false]
    have xn := (x1.trans x2).1
    exact hq vo H4 ((OutS.ext (by simpa using o3) x4).le xn) (Keep.trans (n0 := H.n) (x1.trans x2) (Keep.trans (k3.le xn) (HExt.keep x4 (by have := k3.1; omega))))
end Go.Proofs.Ytkhjmmidaihbhaa.D
