/- What runs of the program's functions compute, on a heap of the run's own, and that the machine does what such a run says: the conditions stand in each theorem. -/
import Derived.Test.YtejedmocjdcdgaaMfM4
set_option linter.unusedSimpArgs false
set_option linter.unusedVariables false
namespace Go.Proofs.Ytejedmocjdcdgaa.D
open Go Go.Det

theorem szT_le (l : List T3) : l.length ≤ szT l + 1 → True := fun _ => trivial
theorem expand_full (it : List It) (hok : ItOk it) : expand (gaps (fullI it)).1 = fullI it := by
  have h := expand_gaps (fullI it)
  rw [(fullI_gb it hok).2] at h
  simpa using h
theorem gaps_sum (it : List It) (hok : ItOk it) : (gaps (fullI it)).1.sum = 16 * (it.length : Int) + 2 := by
  have h := expand_len (gaps (fullI it)).1 (fun g hg => ((fullI_gb it hok).1 g hg).1)
  rw [expand_full it hok, fullI_len] at h
  omega
set_option maxHeartbeats 4000000 in
theorem readPs_ok (ps : List Pt) (w : List Int) (hcan : Canon ps) (cell : Int) (vt : Value) (H : AH) (Q : Value → AH → Prop) (hs : Ints H vt w) (hok : Ok w) (hcel : w.map (celOf cell) = (gaps (fullI (itemsL ps))).1) (hl : szP ps ≤ 1000) (hpl : ps.length ≤ 1000) (hc : 2 ≤ cell) (hc2 : cell ≤ 1000)
    (hq : ∀ vo l H', OutP H.n H' vo l → l.map strip = ps → HExt H H' → Q (.tuple [vo, .int .i64 0].toArray) H') : Got (xc Try.prog tab 30 [vt, .int .i64 cell] H) Q := by
  refine got_call (res := [.tmp 4, .tmp 5]) rfl ?_
  have iok := items_ok ps hcan.1
  have gb := fullI_gb _ iok
  have glen := (gaps_len (fullI (itemsL ps))).1
  have flen := fullI_len (itemsL ps)
  have hexp := expand_full _ iok
  have hn : (itemsL ps).length ≤ 1000 := hl
  have rdc := rd_canon ps hcan
  have hwl : w.length = (gaps (fullI (itemsL ps))).1.length := by rw [← hcel, List.length_map]
  generalize hT : ((.seq (.ops [⟨some 28, .mov (.tmp 6), none⟩, ⟨some 29, .call 78 [.tmp 28], none⟩, ⟨some 27, .mov (.tmp 29), none⟩, ⟨some 30, .ext (.tmp 27) 0, none⟩, ⟨some 31, .ext (.tmp 27) 1, none⟩, ⟨some 32, .ext (.tmp 27) 2, none⟩, ⟨some 8, .mov (.tmp 30), none⟩, ⟨some 9, .mov (.tmp 31), none⟩, ⟨some 7, .mov (.tmp 32), none⟩] [7, 8, 9]) (.seq (.seq (.ops [⟨some 33, .mov (.tmp 7), none⟩, ⟨some 34, .bin .neq (.tmp 33) (.const (.int .i64 0)), none⟩] [7, 8, 9, 34]) (.cond (.tmp 34) (.seq (.ops [⟨some 35, .mov (.tmp 7), none⟩, ⟨some 4, .mov (.const (.slice none 0 0)), none⟩, ⟨some 5, .mov (.tmp 35), none⟩] [4, 5]) .ret) .skip)) (.seq (.ops [⟨some 10, .mov (.const (.slice none 0 0)), none⟩] [8, 9, 10]) (.seq (.ops [⟨some 11, .mov (.const (.bool true)), none⟩] [8, 9, 10, 11]) (.seq (.seq (.ops [⟨some 12, .mov (.const (.int .i64 0)), none⟩] [8, 9, 10, 11, 12]) (.block 0 (.loop xmfm_ReadParts_l1))) (.seq (.seq (.ops [⟨some 141, .mov (.tmp 9), none⟩, ⟨some 142, .mov (.tmp 8), none⟩, ⟨some 143, .len (.tmp 142), none⟩, ⟨some 144, .bin .sub (.tmp 143) (.const (.int .i64 1)), none⟩, ⟨some 145, .idxA 1 (.tmp 141) (.tmp 144), none⟩, ⟨some 146, .ld none (.tmp 145), none⟩] [10, 146]) (.cond (.tmp 146) (.seq (.ops [⟨some 4, .mov (.const (.slice none 0 0)), none⟩, ⟨some 5, .mov (.const (.int .i64 3)), none⟩] [4, 5]) .ret) .skip)) (.seq (.seq (.ops [⟨some 147, .mov (.tmp 10), none⟩, ⟨some 148, .call 75 [.tmp 147], none⟩, ⟨some 149, .bin .gtr (.tmp 148) (.const (.int .i64 2400)), none⟩] [10, 149]) (.cond (.tmp 149) (.seq (.ops [⟨some 4, .mov (.const (.slice none 0 0)), none⟩, ⟨some 5, .mov (.const (.int .i64 2)), none⟩] [4, 5]) .ret) .skip)) (.seq (.ops [⟨some 150, .mov (.tmp 10), none⟩, ⟨some 4, .mov (.tmp 150), none⟩, ⟨some 5, .mov (.const (.int .i64 0)), none⟩] [4, 5]) .ret)))))))) : XCode) = T
  simp only [ofArgs, run_seq, run_block, run_ops, run_skip, run_exit, run_ret, thenQ_normal, thenQ_exit, thenQ_ret, blockQ_normal, blockQ_exit, blockQ_ret, retQ_ret, retQ_normal, ops_nil, ops_none, got_some, ops_wT, ops_wTn, ops_wF, ops_wFn, ops_wU, dops_wT, dops_wTn, dops_wF, dops_wFn, dops_wU, run_condT, run_condF, alt2_int, altB_bool, altI_int, altBB_bool, v_min, v_max, v_not, v_neg, optEv_none, optEv_some, isSome'_none, isSome'_some, pExt0, pExt1, pExt2, Bool.false_and, Bool.true_and, Bool.not_true, Bool.not_false, cond_true, cond_false, dops_nil, dops_none, xval_call, v_mov, v_bin, v_len, v_ext, v_idxA, v_ld, v_st, v_app, v_appN, v_cvs, v_bs1, pBs1, v_slc, v_conv, v_fld, v_fldA, v_new, v_box, v_mks, v_copy, v_isnil, v_nilck, v_pick, ev, evs_nil, evs_cons, fr_get_cons, fr_put_nil, fr_put_cons, fr_put_some, fr_put_none, fr_keep_nil, fr_keep_cons, fr_has_nil, fr_has_cons, Option.bind_some, Option.map_some, xbin, ibin, xresult_eq, xress_nil, xress_tmp, resV, ex_some, if_true, if_false, ite_true, ite_false, reduceIte, reduceCtorEq, Nat.reduceEqDiff, Nat.reduceLT, Nat.reduceLeDiff, Int.reduceLT, Int.reduceLE, Nat.zero_add, Nat.reduceAdd, Bool.false_eq_true, decide_eq_true_eq, decide_eq_false_iff_not, true_implies, false_implies, and_true, true_and]
  refine cells_ok w cell 4 vt H _ hs (by omega) hc hc2 (by omega) hok ?_ ?_
  · intro p hp
    have h1 : celOf cell p ∈ w.map (celOf cell) := List.mem_map_of_mem hp
    rw [hcel] at h1
    exact gb.1 _ h1
  rw [hcel]
  intro vl H1 o1 x1
  subst hT
  generalize hT : ((.seq (.ops [⟨some 10, .mov (.const (.slice none 0 0)), none⟩] [8, 9, 10]) (.seq (.ops [⟨some 11, .mov (.const (.bool true)), none⟩] [8, 9, 10, 11]) (.seq (.seq (.ops [⟨some 12, .mov (.const (.int .i64 0)), none⟩] [8, 9, 10, 11, 12]) (.block 0 (.loop xmfm_ReadParts_l1))) (.seq (.seq (.ops [⟨some 141, .mov (.tmp 9), none⟩, ⟨some 142, .mov (.tmp 8), none⟩, ⟨some 143, .len (.tmp 142), none⟩, ⟨some 144, .bin .sub (.tmp 143) (.const (.int .i64 1)), none⟩, ⟨some 145, .idxA 1 (.tmp 141) (.tmp 144), none⟩, ⟨some 146, .ld none (.tmp 145), none⟩] [10, 146]) (.cond (.tmp 146) (.seq (.ops [⟨some 4, .mov (.const (.slice none 0 0)), none⟩, ⟨some 5, .mov (.const (.int .i64 3)), none⟩] [4, 5]) .ret) .skip)) (.seq (.seq (.ops [⟨some 147, .mov (.tmp 10), none⟩, ⟨some 148, .call 75 [.tmp 147], none⟩, ⟨some 149, .bin .gtr (.tmp 148) (.const (.int .i64 2400)), none⟩] [10, 149]) (.cond (.tmp 149) (.seq (.ops [⟨some 4, .mov (.const (.slice none 0 0)), none⟩, ⟨some 5, .mov (.const (.int .i64 2)), none⟩] [4, 5]) .ret) .skip)) (.seq (.ops [⟨some 150, .mov (.tmp 10), none⟩, ⟨some 4, .mov (.tmp 150), none⟩, ⟨some 5, .mov (.const (.int .i64 0)), none⟩] [4, 5]) .ret)))))) : XCode) = T
  simp only [ofArgs, run_seq, run_block, run_ops, run_skip, run_exit, run_ret, thenQ_normal, thenQ_exit, thenQ_ret, blockQ_normal, blockQ_exit, blockQ_ret, retQ_ret, retQ_normal, ops_nil, ops_none, got_some, ops_wT, ops_wTn, ops_wF, ops_wFn, ops_wU, dops_wT, dops_wTn, dops_wF, dops_wFn, dops_wU, run_condT, run_condF, alt2_int, altB_bool, altI_int, altBB_bool, v_min, v_max, v_not, v_neg, optEv_none, optEv_some, isSome'_none, isSome'_some, pExt0, pExt1, pExt2, Bool.false_and, Bool.true_and, Bool.not_true, Bool.not_false, cond_true, cond_false, dops_nil, dops_none, xval_call, v_mov, v_bin, v_len, v_ext, v_idxA, v_ld, v_st, v_app, v_appN, v_cvs, v_bs1, pBs1, v_slc, v_conv, v_fld, v_fldA, v_new, v_box, v_mks, v_copy, v_isnil, v_nilck, v_pick, ev, evs_nil, evs_cons, fr_get_cons, fr_put_nil, fr_put_cons, fr_put_some, fr_put_none, fr_keep_nil, fr_keep_cons, fr_has_nil, fr_has_cons, Option.bind_some, Option.map_some, xbin, ibin, xresult_eq, xress_nil, xress_tmp, resV, ex_some, if_true, if_false, ite_true, ite_false, reduceIte, reduceCtorEq, Nat.reduceEqDiff, Nat.reduceLT, Nat.reduceLeDiff, Int.reduceLT, Int.reduceLE, Nat.zero_add, Nat.reduceAdd, Bool.false_eq_true, decide_eq_true_eq, decide_eq_false_iff_not, true_implies, false_implies, and_true, true_and, bne_self_eq_false]
  refine bits_ok (gaps (fullI (itemsL ps))).1 (8 * (itemsL ps).length + 1) vl H1 _ o1.ints (fun g hg => (gb.1 g hg).1) (by omega) (by rw [hexp]; exact flen) (by omega) (by omega) (by omega) ?_
  intro vd vc H2 od oc x2
  rw [hexp] at od oc
  have hvd : ∀ b, inB vd b → b < H2.n := fun b hb => od.1.lt hb
  have hvc : ∀ b, inB vc b → b < H2.n := fun b hb => oc.1.lt hb
  subst hT
  generalize hT : ((.seq (.seq (.ops [⟨some 141, .mov (.tmp 9), none⟩, ⟨some 142, .mov (.tmp 8), none⟩, ⟨some 143, .len (.tmp 142), none⟩, ⟨some 144, .bin .sub (.tmp 143) (.const (.int .i64 1)), none⟩, ⟨some 145, .idxA 1 (.tmp 141) (.tmp 144), none⟩, ⟨some 146, .ld none (.tmp 145), none⟩] [10, 146]) (.cond (.tmp 146) (.seq (.ops [⟨some 4, .mov (.const (.slice none 0 0)), none⟩, ⟨some 5, .mov (.const (.int .i64 3)), none⟩] [4, 5]) .ret) .skip)) (.seq (.seq (.ops [⟨some 147, .mov (.tmp 10), none⟩, ⟨some 148, .call 75 [.tmp 147], none⟩, ⟨some 149, .bin .gtr (.tmp 148) (.const (.int .i64 2400)), none⟩] [10, 149]) (.cond (.tmp 149) (.seq (.ops [⟨some 4, .mov (.const (.slice none 0 0)), none⟩, ⟨some 5, .mov (.const (.int .i64 2)), none⟩] [4, 5]) .ret) .skip)) (.seq (.ops [⟨some 150, .mov (.tmp 10), none⟩, ⟨some 4, .mov (.tmp 150), none⟩, ⟨some 5, .mov (.const (.int .i64 0)), none⟩] [4, 5]) .ret))) : XCode) = T
  simp only [ofArgs, run_seq, run_block, run_ops, run_skip, run_exit, run_ret, thenQ_normal, thenQ_exit, thenQ_ret, blockQ_normal, blockQ_exit, blockQ_ret, retQ_ret, retQ_normal, ops_nil, ops_none, got_some, ops_wT, ops_wTn, ops_wF, ops_wFn, ops_wU, dops_wT, dops_wTn, dops_wF, dops_wFn, dops_wU, run_condT, run_condF, alt2_int, altB_bool, altI_int, altBB_bool, v_min, v_max, v_not, v_neg, optEv_none, optEv_some, isSome'_none, isSome'_some, pExt0, pExt1, pExt2, Bool.false_and, Bool.true_and, Bool.not_true, Bool.not_false, cond_true, cond_false, dops_nil, dops_none, xval_call, v_mov, v_bin, v_len, v_ext, v_idxA, v_ld, v_st, v_app, v_appN, v_cvs, v_bs1, pBs1, v_slc, v_conv, v_fld, v_fldA, v_new, v_box, v_mks, v_copy, v_isnil, v_nilck, v_pick, ev, evs_nil, evs_cons, fr_get_cons, fr_put_nil, fr_put_cons, fr_put_some, fr_put_none, fr_keep_nil, fr_keep_cons, fr_has_nil, fr_has_cons, Option.bind_some, Option.map_some, xbin, ibin, xresult_eq, xress_nil, xress_tmp, resV, ex_some, if_true, if_false, ite_true, ite_false, reduceIte, reduceCtorEq, Nat.reduceEqDiff, Nat.reduceLT, Nat.reduceLeDiff, Int.reduceLT, Int.reduceLE, Nat.zero_add, Nat.reduceAdd, Bool.false_eq_true, decide_eq_true_eq, decide_eq_false_iff_not, true_implies, false_implies, and_true, true_and, bne_self_eq_false]
  refine rp_l1P H2.n vd vc (fullI (itemsL ps)) (8 * (itemsL ps).length + 1) flen (by omega) hvd hvc (itemsL ps) [] 0 true [] (.slice none 0 0) H2 _ od.1 oc.1 iok (by simp [fullI]) (by simp) (by omega) (OutP.nil _ _) (Nat.le_refl _) (by simp; omega) (fun p hp => by simp at hp) ?_
  intro vo l H3 last j o3 hm k3
  rw [List.map_nil, rdc] at hm
  have d3 : Boos H3 vd _ := Sl.keep k3 od.1 hvd
  have c3 : Boos H3 vc _ := Sl.keep k3 oc.1 hvc
  have e := boos_len d3
  rw [dataL_len] at e
  have e2 := boos_idx c3 ((8 * (itemsL ps).length : Nat) : Int) _ rfl (by rw [clockL_len]; omega)
  have e3 := boos_ld c3 (8 * (itemsL ps).length) false (by
    rw [clockL_get _ _ _ _ (by omega)]
    have : (fullI (itemsL ps)).getD (2 * (8 * (itemsL ps).length)) false = false := by
      unfold fullI
      rw [List.getD_eq_getElem?_getD, List.getElem?_append_right (by rw [isym_len]; omega), isym_len]
      have : 2 * (8 * (itemsL ps).length) - 16 * (itemsL ps).length = 0 := by omega
      rw [this]
      rfl
    rw [this]; simp)
  have w1 : IntKind.i64.wrap (((8 * (itemsL ps).length + 1 : Nat) : Int) - 1) = ((8 * (itemsL ps).length : Nat) : Int) := by rw [wrI _ (by omega) (by omega)]; omega
  subst hT
  generalize hT : ((.seq (.ops [⟨some 150, .mov (.tmp 10), none⟩, ⟨some 4, .mov (.tmp 150), none⟩, ⟨some 5, .mov (.const (.int .i64 0)), none⟩] [4, 5]) .ret) : XCode) = T
  simp only [ofArgs, run_seq, run_block, run_ops, run_skip, run_exit, run_ret, thenQ_normal, thenQ_exit, thenQ_ret, blockQ_normal, blockQ_exit, blockQ_ret, retQ_ret, retQ_normal, ops_nil, ops_none, got_some, ops_wT, ops_wTn, ops_wF, ops_wFn, ops_wU, dops_wT, dops_wTn, dops_wF, dops_wFn, dops_wU, run_condT, run_condF, alt2_int, altB_bool, altI_int, altBB_bool, v_min, v_max, v_not, v_neg, optEv_none, optEv_some, isSome'_none, isSome'_some, pExt0, pExt1, pExt2, Bool.false_and, Bool.true_and, Bool.not_true, Bool.not_false, cond_true, cond_false, dops_nil, dops_none, xval_call, v_mov, v_bin, v_len, v_ext, v_idxA, v_ld, v_st, v_app, v_appN, v_cvs, v_bs1, pBs1, v_slc, v_conv, v_fld, v_fldA, v_new, v_box, v_mks, v_copy, v_isnil, v_nilck, v_pick, ev, evs_nil, evs_cons, fr_get_cons, fr_put_nil, fr_put_cons, fr_put_some, fr_put_none, fr_keep_nil, fr_keep_cons, fr_has_nil, fr_has_cons, Option.bind_some, Option.map_some, xbin, ibin, xresult_eq, xress_nil, xress_tmp, resV, ex_some, if_true, if_false, ite_true, ite_false, reduceIte, reduceCtorEq, Nat.reduceEqDiff, Nat.reduceLT, Nat.reduceLeDiff, Int.reduceLT, Int.reduceLE, Nat.zero_add, Nat.reduceAdd, Bool.false_eq_true, decide_eq_true_eq, decide_eq_false_iff_not, true_implies, false_implies, and_true, true_and, e, w1, e2, e3]
  have hll : l.length = ps.length := by rw [← hm, List.length_map]
  have hsz : szT l = szP ps := by unfold szT; rw [hm]
  refine sizeP_ok vo l H3 _ o3.rp (by omega) (by omega) ?_
  intro H4 x4
  have c1 : ¬ (((szT l : Nat) : Int) > 2400) := by omega
  subst hT
  simp only [ofArgs, run_seq, run_block, run_ops, run_skip, run_exit, run_ret, thenQ_normal, thenQ_exit, thenQ_ret, blockQ_normal, blockQ_exit, blockQ_ret, retQ_ret, retQ_normal, ops_nil, ops_none, got_some, ops_wT, ops_wTn, ops_wF, ops_wFn, ops_wU, dops_wT, dops_wTn, dops_wF, dops_wFn, dops_wU, run_condT, run_condF, alt2_int, altB_bool, altI_int, altBB_bool, v_min, v_max, v_not, v_neg, optEv_none, optEv_some, isSome'_none, isSome'_some, pExt0, pExt1, pExt2, Bool.false_and, Bool.true_and, Bool.not_true, Bool.not_false, cond_true, cond_false, dops_nil, dops_none, xval_call, v_mov, v_bin, v_len, v_ext, v_idxA, v_ld, v_st, v_app, v_appN, v_cvs, v_bs1, pBs1, v_slc, v_conv, v_fld, v_fldA, v_new, v_box, v_mks, v_copy, v_isnil, v_nilck, v_pick, ev, evs_nil, evs_cons, fr_get_cons, fr_put_nil, fr_put_cons, fr_put_some, fr_put_none, fr_keep_nil, fr_keep_cons, fr_has_nil, fr_has_cons, Option.bind_some, Option.map_some, xbin, ibin, xresult_eq, xress_nil, xress_tmp, resV, ex_some, if_true, if_false, ite_true, ite_false, reduceIte, reduceCtorEq, Nat.reduceEqDiff, Nat.reduceLT, Nat.reduceLeDiff, Int.reduceLT, Int.reduceLE, Nat.zero_add, Nat.reduceAdd, Bool.false_eq_true, decide_eq_true_eq, decide_eq_false_iff_not, true_implies, false_implies, and_true, true_and, c1, decide_false]
  have xn := (x1.trans x2).1
  exact hq vo l H4 ((o3.ext x4).le xn) hm (Keep.trans (n0 := H.n) (x1.trans x2) (Keep.trans (k3.le xn) (HExt.keep x4 (by have := k3.1; omega))))

/-! ### parts are compared -/
theorem tyB : Try.prog.underlying 4 = some .bool := by kernel_rfl
theorem same1_ok (p r : T3) (H : AH) (Q : Value → AH → Prop) (hp : Byts H p.2.2 p.2.1) (hr : Byts H r.2.2 r.2.1) (hpl : p.2.1.length ≤ 1000) (hs : strip p = strip r) (hq : ∀ H', HExt H H' → Q (.bool true) H') :
    Got (xc Try.prog tab 32 [.agg #[.bool p.1, p.2.2], .agg #[.bool r.1, r.2.2]] H) Q := by
  obtain ⟨m, bs, w⟩ := p
  obtain ⟨m2, bs2, w2⟩ := r
  simp only [strip, Prod.mk.injEq] at hs
  obtain ⟨rfl, rfl⟩ := hs
  refine got_call (res := [.tmp 4]) rfl ?_
  have v1 : vcells (.agg #[.bool m, w]) = [.bool m, w] := rfl
  have v2 : vcells (.agg #[.bool m, w2]) = [.bool m, w2] := rfl
  have x1 := hext_push H ⟨[.bool m, w], 1, false, false⟩
  have x2 := hext_push (H.push ⟨[.bool m, w], 1, false, false⟩) ⟨[.bool m, w2], 1, false, false⟩
  have g1 : ((H.push ⟨[.bool m, w], 1, false, false⟩).push ⟨[.bool m, w2], 1, false, false⟩).get H.n = some ⟨[.bool m, w], 1, false, false⟩ := by rw [AH.get_push, if_neg (by simp), AH.get_push, if_pos rfl]
  have g2 : ((H.push ⟨[.bool m, w], 1, false, false⟩).push ⟨[.bool m, w2], 1, false, false⟩).get (H.n + 1) = some ⟨[.bool m, w2], 1, false, false⟩ := by rw [AH.get_push, if_pos (by simp)]
  have hp' := Sl.ext x2 (Sl.ext x1 hp)
  have hr' := Sl.ext x2 (Sl.ext x1 hr)
  have xx := x1.trans x2
  simp only [ofArgs, run_seq, run_block, run_ops, run_skip, run_exit, run_ret, thenQ_normal, thenQ_exit, thenQ_ret, blockQ_normal, blockQ_exit, blockQ_ret, retQ_ret, retQ_normal, ops_nil, ops_none, got_some, ops_wT, ops_wTn, ops_wF, ops_wFn, ops_wU, dops_wT, dops_wTn, dops_wF, dops_wFn, dops_wU, run_condT, run_condF, alt2_int, altB_bool, altI_int, altBB_bool, v_min, v_max, v_not, v_neg, optEv_none, optEv_some, isSome'_none, isSome'_some, pExt0, pExt1, pExt2, Bool.false_and, Bool.true_and, Bool.not_true, Bool.not_false, cond_true, cond_false, dops_nil, dops_none, xval_call, v_mov, v_bin, v_len, v_ext, v_idxA, v_ld, v_st, v_app, v_appN, v_cvs, v_bs1, pBs1, v_slc, v_conv, v_fld, v_fldA, v_new, v_box, v_mks, v_copy, v_isnil, v_nilck, v_pick, ev, evs_nil, evs_cons, fr_get_cons, fr_put_nil, fr_put_cons, fr_put_some, fr_put_none, fr_keep_nil, fr_keep_cons, fr_has_nil, fr_has_cons, Option.bind_some, Option.map_some, xbin, ibin, xresult_eq, xress_nil, xress_tmp, resV, ex_some, if_true, if_false, ite_true, ite_false, reduceIte, reduceCtorEq, Nat.reduceEqDiff, Nat.reduceLT, Nat.reduceLeDiff, Int.reduceLT, Int.reduceLE, Nat.zero_add, Nat.reduceAdd, Bool.false_eq_true, decide_eq_true_eq, decide_eq_false_iff_not, true_implies, false_implies, and_true, true_and, v1, v2, AH.push_n]
  generalize (H.push ⟨[.bool m, w], 1, false, false⟩).push ⟨[.bool m, w2], 1, false, false⟩ = H2 at *
  have a1 := bx2_0 g1
  have a2 := bx2_1 g1
  have b1 := bx2_0 g2
  have b2 := bx2_1 g2
  have r1 := equalB_xc bs bs w w2 H2 hp' hr' (by simp only at hpl; omega) (by simp only at hpl; omega)
  simp only [ofArgs, run_seq, run_block, run_ops, run_skip, run_exit, run_ret, thenQ_normal, thenQ_exit, thenQ_ret, blockQ_normal, blockQ_exit, blockQ_ret, retQ_ret, retQ_normal, ops_nil, ops_none, got_some, ops_wT, ops_wTn, ops_wF, ops_wFn, ops_wU, dops_wT, dops_wTn, dops_wF, dops_wFn, dops_wU, run_condT, run_condF, alt2_int, altB_bool, altI_int, altBB_bool, v_min, v_max, v_not, v_neg, optEv_none, optEv_some, isSome'_none, isSome'_some, pExt0, pExt1, pExt2, Bool.false_and, Bool.true_and, Bool.not_true, Bool.not_false, cond_true, cond_false, dops_nil, dops_none, xval_call, v_mov, v_bin, v_len, v_ext, v_idxA, v_ld, v_st, v_app, v_appN, v_cvs, v_bs1, pBs1, v_slc, v_conv, v_fld, v_fldA, v_new, v_box, v_mks, v_copy, v_isnil, v_nilck, v_pick, ev, evs_nil, evs_cons, fr_get_cons, fr_put_nil, fr_put_cons, fr_put_some, fr_put_none, fr_keep_nil, fr_keep_cons, fr_has_nil, fr_has_cons, Option.bind_some, Option.map_some, xbin, ibin, xresult_eq, xress_nil, xress_tmp, resV, ex_some, if_true, if_false, ite_true, ite_false, reduceIte, reduceCtorEq, Nat.reduceEqDiff, Nat.reduceLT, Nat.reduceLeDiff, Int.reduceLT, Int.reduceLE, Nat.zero_add, Nat.reduceAdd, Bool.false_eq_true, decide_eq_true_eq, decide_eq_false_iff_not, true_implies, false_implies, and_true, true_and, fldA0, fldA1, a1, a2, b1, b2, v_eqb tyB, r1, decide_true, beq_self_eq_true]
  exact hq _ xx
theorem eqf_l0 (v u : Value) (rest : List T3) : ∀ (rest2 pre pre2 : List T3) (H : AH) (i N : Int) (Q : XExit → Fr → AH → Prop), RP H v (pre ++ rest) → RP H u (pre2 ++ rest2) → pre.length = pre2.length → rest.map strip = rest2.map strip → (∀ p ∈ rest, p.2.1.length ≤ 1000) → pre.length + rest.length ≤ 100000 → i = (pre.length : Int) → N = ((pre ++ rest).length : Int) →
    (∀ H', HExt H H' → Q (.exit 0) [(1, u), (2, .func (.func 32) #[] #[]), (15, v), (16, .int .i64 N), (17, .int .i64 N), (18, .bool false)] H') →
    Run Try.prog tab (.loop xslices_EqualFunc_Smfm_Part_Smfm_Part_mfm_Part_mfm_Part_l0) [(1, u), (2, .func (.func 32) #[] #[]), (15, v), (16, .int .i64 N), (17, .int .i64 i)] H Q := by
  induction rest with
  | nil =>
    intro rest2 pre pre2 H i N Q hv hu hpp hm hb hl hi hN hq
    rw [run_loop]
    generalize hL : XCode.loop xslices_EqualFunc_Smfm_Part_Smfm_Part_mfm_Part_mfm_Part_l0 = L
    have hiN : i = N := by simp at hN; omega
    subst hiN
    have hf : ¬ i < i := by omega
    simp only [xslices_EqualFunc_Smfm_Part_Smfm_Part_mfm_Part_mfm_Part_l0, ofArgs, run_seq, run_block, run_ops, run_skip, run_exit, run_ret, thenQ_normal, thenQ_exit, thenQ_ret, blockQ_normal, blockQ_exit, blockQ_ret, retQ_ret, retQ_normal, ops_nil, ops_none, got_some, ops_wT, ops_wTn, ops_wF, ops_wFn, ops_wU, dops_wT, dops_wTn, dops_wF, dops_wFn, dops_wU, run_condT, run_condF, alt2_int, altB_bool, altI_int, altBB_bool, v_min, v_max, v_not, v_neg, optEv_none, optEv_some, isSome'_none, isSome'_some, pExt0, pExt1, pExt2, Bool.false_and, Bool.true_and, Bool.not_true, Bool.not_false, cond_true, cond_false, dops_nil, dops_none, xval_call, v_mov, v_bin, v_len, v_ext, v_idxA, v_ld, v_st, v_app, v_appN, v_cvs, v_bs1, pBs1, v_slc, v_conv, v_fld, v_fldA, v_new, v_box, v_mks, v_copy, v_isnil, v_nilck, v_pick, ev, evs_nil, evs_cons, fr_get_cons, fr_put_nil, fr_put_cons, fr_put_some, fr_put_none, fr_keep_nil, fr_keep_cons, fr_has_nil, fr_has_cons, Option.bind_some, Option.map_some, xbin, ibin, xresult_eq, xress_nil, xress_tmp, resV, ex_some, if_true, if_false, ite_true, ite_false, reduceIte, reduceCtorEq, Nat.reduceEqDiff, Nat.reduceLT, Nat.reduceLeDiff, Int.reduceLT, Int.reduceLE, Nat.zero_add, Nat.reduceAdd, Bool.false_eq_true, decide_eq_true_eq, decide_eq_false_iff_not, true_implies, false_implies, and_true, true_and, hf, decide_false]
    exact hq H (HExt.refl H)
  | cons p rest ih =>
    intro rest2 pre pre2 H i N Q hv hu hpp hm hb hl hi hN hq
    cases rest2 with
    | nil => simp at hm
    | cons r rest2 =>
      simp only [List.map_cons, List.cons.injEq] at hm
      simp only [List.length_cons] at hl
      rw [run_loop]
      generalize hL : XCode.loop xslices_EqualFunc_Smfm_Part_Smfm_Part_mfm_Part_mfm_Part_l0 = L
      have hlt : i < N := by simp at hN; omega
      have e1 := rp_idx hv .i64 i hi
      have e2 := rp_ld hv
      have f1 := rp_idx hu .i64 i (by omega)
      have hbp := hv.2 p (by simp)
      have hbr := hu.2 r (by simp)
      obtain ⟨o1, o2⟩ := slice_one hbp
      obtain ⟨q1, q2⟩ := slice_one hbr
      have st := b2_st H p.1 p.2.2 o1
      have hx := b2_ext H p.1 p.2.2
      have f2 := rp_ld (hu.ext hx)
      have f1' := rp_idx (hu.ext hx) .i64 i (by omega)
      have st2 := b2_st (b2 H p.1 p.2.2) r.1 r.2.2 q1
      have hx2 := b2_ext (b2 H p.1 p.2.2) r.1 r.2.2
      have g1 := (hx2.2 H.n (by rw [b2_n]; omega)).trans (b2_get H p.1 p.2.2)
      have g2 := b2_get (b2 H p.1 p.2.2) r.1 r.2.2
      have l1 := bx2_ld g1
      have l2 := bx2_ld g2
      have w3 := wrI (i + 1) (by omega) (by omega)
      have ea : (#[] : Array Value).toList ++ [.agg #[.bool p.1, p.2.2], .agg #[.bool r.1, r.2.2]] ++ (#[] : Array Value).toList = [.agg #[.bool p.1, p.2.2], .agg #[.bool r.1, r.2.2]] := rfl
      simp only [xslices_EqualFunc_Smfm_Part_Smfm_Part_mfm_Part_mfm_Part_l0, ofArgs, run_seq, run_block, run_ops, run_skip, run_exit, run_ret, thenQ_normal, thenQ_exit, thenQ_ret, blockQ_normal, blockQ_exit, blockQ_ret, retQ_ret, retQ_normal, ops_nil, ops_none, got_some, ops_wT, ops_wTn, ops_wF, ops_wFn, ops_wU, dops_wT, dops_wTn, dops_wF, dops_wFn, dops_wU, run_condT, run_condF, alt2_int, altB_bool, altI_int, altBB_bool, v_min, v_max, v_not, v_neg, optEv_none, optEv_some, isSome'_none, isSome'_some, pExt0, pExt1, pExt2, Bool.false_and, Bool.true_and, Bool.not_true, Bool.not_false, cond_true, cond_false, dops_nil, dops_none, xval_call, v_mov, v_bin, v_len, v_ext, v_idxA, v_ld, v_st, v_app, v_appN, v_cvs, v_bs1, pBs1, v_slc, v_conv, v_fld, v_fldA, v_new, v_box, v_mks, v_copy, v_isnil, v_nilck, v_pick, ev, evs_nil, evs_cons, fr_get_cons, fr_put_nil, fr_put_cons, fr_put_some, fr_put_none, fr_keep_nil, fr_keep_cons, fr_has_nil, fr_has_cons, Option.bind_some, Option.map_some, xbin, ibin, xresult_eq, xress_nil, xress_tmp, resV, ex_some, if_true, if_false, ite_true, ite_false, reduceIte, reduceCtorEq, Nat.reduceEqDiff, Nat.reduceLT, Nat.reduceLeDiff, Int.reduceLT, Int.reduceLE, Nat.zero_add, Nat.reduceAdd, Bool.false_eq_true, decide_eq_true_eq, decide_eq_false_iff_not, true_implies, false_implies, and_true, true_and, hlt, decide_true, e1, e2, st, f1, f1', f2, st2, l1, l2, v_callv, pCallV_func, ea]
      refine same1_ok p r _ _ (Sl.ext hx2 (Sl.ext hx hbp)) (Sl.ext hx2 (Sl.ext hx hbr)) (hb p (by simp)) hm.1 ?_
      intro H' x'
      simp only [ofArgs, run_seq, run_block, run_ops, run_skip, run_exit, run_ret, thenQ_normal, thenQ_exit, thenQ_ret, blockQ_normal, blockQ_exit, blockQ_ret, retQ_ret, retQ_normal, ops_nil, ops_none, got_some, ops_wT, ops_wTn, ops_wF, ops_wFn, ops_wU, dops_wT, dops_wTn, dops_wF, dops_wFn, dops_wU, run_condT, run_condF, alt2_int, altB_bool, altI_int, altBB_bool, v_min, v_max, v_not, v_neg, optEv_none, optEv_some, isSome'_none, isSome'_some, pExt0, pExt1, pExt2, Bool.false_and, Bool.true_and, Bool.not_true, Bool.not_false, cond_true, cond_false, dops_nil, dops_none, xval_call, v_mov, v_bin, v_len, v_ext, v_idxA, v_ld, v_st, v_app, v_appN, v_cvs, v_bs1, pBs1, v_slc, v_conv, v_fld, v_fldA, v_new, v_box, v_mks, v_copy, v_isnil, v_nilck, v_pick, ev, evs_nil, evs_cons, fr_get_cons, fr_put_nil, fr_put_cons, fr_put_some, fr_put_none, fr_keep_nil, fr_keep_cons, fr_has_nil, fr_has_cons, Option.bind_some, Option.map_some, xbin, ibin, xresult_eq, xress_nil, xress_tmp, resV, ex_some, if_true, if_false, ite_true, ite_false, reduceIte, reduceCtorEq, Nat.reduceEqDiff, Nat.reduceLT, Nat.reduceLeDiff, Int.reduceLT, Int.reduceLE, Nat.zero_add, Nat.reduceAdd, Bool.false_eq_true, decide_eq_true_eq, decide_eq_false_iff_not, true_implies, false_implies, and_true, true_and, w3]
      subst hL
      have xx := hx.trans (hx2.trans x')
      refine ih rest2 (pre ++ [p]) (pre2 ++ [r]) H' (i + 1) N Q (by rw [← List.append_cons]; exact hv.ext xx) (by rw [← List.append_cons]; exact hu.ext xx) (by simp; omega) hm.2 (fun p hp => hb p (by simp [hp])) (by simp; omega) (by simp; omega) (by simpa using hN) ?_
      intro H2 x2
      exact hq H2 (xx.trans x2)
theorem eqf_ok (v u : Value) (l l2 : List T3) (H : AH) (Q : Value → AH → Prop) (hv : RP H v l) (hu : RP H u l2) (hm : l.map strip = l2.map strip) (hb : ∀ p ∈ l, p.2.1.length ≤ 1000) (hl : l.length ≤ 10000) (hq : ∀ H', HExt H H' → Q (.bool true) H') :
    Got (xc Try.prog tab 31 [v, u, .func (.func 32) #[] #[]] H) Q := by
  refine got_call (res := [.tmp 6]) rfl ?_
  have e1 := pLen_ok hv.1
  have e2 := pLen_ok hu.1
  have hll : l2.length = l.length := by have := congrArg List.length hm; simpa using this.symm
  rw [hll] at e2
  simp only [ofArgs, run_seq, run_block, run_ops, run_skip, run_exit, run_ret, thenQ_normal, thenQ_exit, thenQ_ret, blockQ_normal, blockQ_exit, blockQ_ret, retQ_ret, retQ_normal, ops_nil, ops_none, got_some, ops_wT, ops_wTn, ops_wF, ops_wFn, ops_wU, dops_wT, dops_wTn, dops_wF, dops_wFn, dops_wU, run_condT, run_condF, alt2_int, altB_bool, altI_int, altBB_bool, v_min, v_max, v_not, v_neg, optEv_none, optEv_some, isSome'_none, isSome'_some, pExt0, pExt1, pExt2, Bool.false_and, Bool.true_and, Bool.not_true, Bool.not_false, cond_true, cond_false, dops_nil, dops_none, xval_call, v_mov, v_bin, v_len, v_ext, v_idxA, v_ld, v_st, v_app, v_appN, v_cvs, v_bs1, pBs1, v_slc, v_conv, v_fld, v_fldA, v_new, v_box, v_mks, v_copy, v_isnil, v_nilck, v_pick, ev, evs_nil, evs_cons, fr_get_cons, fr_put_nil, fr_put_cons, fr_put_some, fr_put_none, fr_keep_nil, fr_keep_cons, fr_has_nil, fr_has_cons, Option.bind_some, Option.map_some, xbin, ibin, xresult_eq, xress_nil, xress_tmp, resV, ex_some, if_true, if_false, ite_true, ite_false, reduceIte, reduceCtorEq, Nat.reduceEqDiff, Nat.reduceLT, Nat.reduceLeDiff, Int.reduceLT, Int.reduceLE, Nat.zero_add, Nat.reduceAdd, Bool.false_eq_true, decide_eq_true_eq, decide_eq_false_iff_not, true_implies, false_implies, and_true, true_and, e1, e2, bne_self_eq_false]
  refine eqf_l0 v u l l2 [] [] H _ _ _ (by simpa using hv) (by simpa using hu) rfl hm hb (by simp; omega) (by simp) (by simp) ?_
  intro H' x
  simp only [ofArgs, run_seq, run_block, run_ops, run_skip, run_exit, run_ret, thenQ_normal, thenQ_exit, thenQ_ret, blockQ_normal, blockQ_exit, blockQ_ret, retQ_ret, retQ_normal, ops_nil, ops_none, got_some, ops_wT, ops_wTn, ops_wF, ops_wFn, ops_wU, dops_wT, dops_wTn, dops_wF, dops_wFn, dops_wU, run_condT, run_condF, alt2_int, altB_bool, altI_int, altBB_bool, v_min, v_max, v_not, v_neg, optEv_none, optEv_some, isSome'_none, isSome'_some, pExt0, pExt1, pExt2, Bool.false_and, Bool.true_and, Bool.not_true, Bool.not_false, cond_true, cond_false, dops_nil, dops_none, xval_call, v_mov, v_bin, v_len, v_ext, v_idxA, v_ld, v_st, v_app, v_appN, v_cvs, v_bs1, pBs1, v_slc, v_conv, v_fld, v_fldA, v_new, v_box, v_mks, v_copy, v_isnil, v_nilck, v_pick, ev, evs_nil, evs_cons, fr_get_cons, fr_put_nil, fr_put_cons, fr_put_some, fr_put_none, fr_keep_nil, fr_keep_cons, fr_has_nil, fr_has_cons, Option.bind_some, Option.map_some, xbin, ibin, xresult_eq, xress_nil, xress_tmp, resV, ex_some, if_true, if_false, ite_true, ite_false, reduceIte, reduceCtorEq, Nat.reduceEqDiff, Nat.reduceLT, Nat.reduceLeDiff, Int.reduceLT, Int.reduceLE, Nat.zero_add, Nat.reduceAdd, Bool.false_eq_true, decide_eq_true_eq, decide_eq_false_iff_not, true_implies, false_implies, and_true, true_and]
  exact hq H' x
end Go.Proofs.Ytejedmocjdcdgaa.D

set_option linter.unusedSimpArgs false
set_option linter.unusedVariables false
namespace Go.Proofs.Ytejedmocjdcdgaa.D
open Go Go.Det

/-! ### the law's parts -/
theorem v_b2t {P : Program} {T : XTab} (fr : Fr) (H : AH) (dd : Option Nat) (x : Operand) (z0 z1 : Value) : xval P (xc P T) ⟨dd, .build [z0, z1] [(0, 1, .const (.bool true)), (1, 1, x)], none⟩ fr H = (ev fr x).bind fun v => pB2 (.bool true) v H := by
  have e : xop P fr H (.build [z0, z1] [(0, 1, .const (.bool true)), (1, 1, x)]) = xop P fr H (.build [.bool true, z1] [(1, 1, x)]) := by rw [e_build, e_build]; rfl
  rw [xval_op dd _ fr H rfl, e, ← xval_op (P := P) (T := T) dd _ fr H rfl]
  exact v_b2 fr H dd x (.bool true) z1
theorem v_bs02 {P : Program} {T : XTab} (fr : Fr) (H : AH) (dd : Option Nat) (e : TypeId) (z0 z1 : Value) : xval P (xc P T) ⟨dd, .bslice e 2 0 [z0, z1] [], none⟩ fr H = some (.slice (some ⟨H.n, 0, none⟩) 0 0, H.push ⟨[], 2, false, false⟩) := rfl
def pBs4 (a b c : Value) (v : Value) (H : AH) : Option (Value × AH) :=
  match v with
  | .int k n => some (.slice (some ⟨H.n, 0, none⟩) 4 4, H.push ⟨[.int k n, a, b, c], 1, false, false⟩)
  | _ => none
def altN (o : Option Value) (f : IntKind → Int → Option (Value × AH)) (z : Option (Value × AH)) : Option (Value × AH) :=
  match o with
  | some (.int k n) => f k n
  | _ => z
theorem altN_int (k : IntKind) (n : Int) (f : IntKind → Int → Option (Value × AH)) (z : Option (Value × AH)) : altN (some (.int k n)) f z = f k n := rfl
theorem v_bs4 {P : Program} {T : XTab} (fr : Fr) (H : AH) (dd : Option Nat) (e : TypeId) (x : Operand) (z : Value) (ka kb kc : IntKind) (a b c : Int) : xval P (xc P T) ⟨dd, .bslice e 1 4 [z] [(0, x), (1, .const (.int ka a)), (2, .const (.int kb b)), (3, .const (.int kc c))], none⟩ fr H =
    altN (ev fr x) (fun k n => some (.slice (some ⟨H.n, 0, none⟩) 4 4, H.push ⟨[.int k n, .int ka a, .int kb b, .int kc c], 1, false, false⟩)) (xop P fr H (.bslice e 1 4 [z] [(0, x), (1, .const (.int ka a)), (2, .const (.int kb b)), (3, .const (.int kc c))])) := by
  rw [xval_op dd _ fr H rfl]
  unfold altN
  split
  · rename_i k n h
    rw [e_bslice]
    simp only [List.map_cons, List.map_nil, xfill, h]
    rfl
  · rfl
theorem OutP.same {n1 : Nat} {H H' : AH} {vo : Value} {l : List T3} (h : OutP n1 H vo l) (hn : H.n ≤ H'.n) (hg : ∀ b, n1 ≤ b → b < H.n → H'.get b = H.get b) : OutP n1 H' vo l := by
  refine ⟨Own.same h.own hn fun b hb => ?_, fun p hp => Own.same (h.byt p hp) hn fun b hb => ?_, h.dis, h.pw⟩
  · refine hg b ?_ (h.own.1.lt hb)
    obtain ⟨o, l, c, e⟩ := hb
    exact (h.own.2 b o l c e).1
  · refine hg b ?_ ((h.byt p hp).1.lt hb)
    obtain ⟨o, l, c, e⟩ := hb
    exact ((h.byt p hp).2 b o l c e).1
theorem Strm.same {nS : Nat} {H H' : AH} {B : Nat} {v : Value} {l : List Int} (h : Strm nS H B v l) (hn : H.n ≤ H'.n) (hB : H'.get B = H.get B) (hg : ∀ b, b < nS → H'.get b = H.get b) : Strm nS H' B v l :=
  ⟨h.nb, Nat.lt_of_lt_of_le h.lt hn, hB.trans h.box, Sl.same h.ints hn fun b hb => hg b (h.out b hb), h.out⟩
theorem canon_snoc (ps : List Pt) (bs : List Int) (h : Canon ps) (hb : B8 bs) : Canon (ps ++ [(true, bs)]) := by
  obtain ⟨h1, h2, h3⟩ := h
  refine ⟨fun p hp => ?_, fun p hp => ?_, fun p hp => ?_⟩
  · rcases List.mem_append.1 hp with h | h
    · exact h1 p h
    · simp only [List.mem_singleton] at h; subst h; exact hb
  · cases ps with
    | nil => simp at hp
    | cons a ps =>
      simp only [List.cons_append, List.tail_cons] at hp
      rcases List.mem_append.1 hp with h | h
      · exact h2 p h
      · simp only [List.mem_singleton] at h; subst h; rfl
  · cases ps with
    | nil => simp only [List.nil_append, List.head?_cons, Option.some.injEq] at hp; subst hp; exact .inl rfl
    | cons a ps => exact h3 p hp

set_option maxHeartbeats 4000000 in
theorem parts_l0 (nS B n2 : Nat) (vb vo : Value) (hBn : B < n2) (N1 i1 : Int) (r : Nat) : ∀ (j : Nat) (bs lst : List Int) (vs : Value) (H : AH) (N : Int) (Q : XExit → Fr → AH → Prop), Strm nS H B vs lst → OwnB n2 H vb bs → B8 bs → n2 ≤ H.n → bs.length ≤ 100 → j + r = bs.length → N = (bs.length : Int) →
    (∀ H' bs' vs' lst', Strm nS H' B vs' lst' → OwnB n2 H' vb bs' → B8 bs' → bs'.length = bs.length → H.n ≤ H'.n → (∀ d, d < n2 → d ≠ B → H'.get d = H.get d) → Q (.exit 2) [(3, .pointer (some ⟨B, 0, none⟩)), (4, vo), (6, vb), (24, .int .i64 N1), (25, .int .i64 i1), (31, .int .i64 N), (32, .int .i64 N), (33, .bool false)] H') →
    Run Try.prog tab (.loop xbakekeep2_parts_l0) [(3, .pointer (some ⟨B, 0, none⟩)), (4, vo), (6, vb), (24, .int .i64 N1), (25, .int .i64 i1), (31, .int .i64 N), (32, .int .i64 (j : Int))] H Q := by
  induction r with
  | zero =>
    intro j bs lst vs H N Q hs ho h8 hn hbl hj hN hq
    rw [run_loop]
    generalize hL : XCode.loop xbakekeep2_parts_l0 = L
    have hjN : (j : Int) = N := by omega
    rw [hjN]
    have hf : ¬ N < N := by omega
    simp only [xbakekeep2_parts_l0, ofArgs, run_seq, run_block, run_ops, run_skip, run_exit, run_ret, thenQ_normal, thenQ_exit, thenQ_ret, blockQ_normal, blockQ_exit, blockQ_ret, retQ_ret, retQ_normal, ops_nil, ops_none, got_some, ops_wT, ops_wTn, ops_wF, ops_wFn, ops_wU, dops_wT, dops_wTn, dops_wF, dops_wFn, dops_wU, run_condT, run_condF, alt2_int, altB_bool, altI_int, altBB_bool, v_min, v_max, v_not, v_neg, optEv_none, optEv_some, isSome'_none, isSome'_some, pExt0, pExt1, pExt2, Bool.false_and, Bool.true_and, Bool.not_true, Bool.not_false, cond_true, cond_false, dops_nil, dops_none, xval_call, v_mov, v_bin, v_len, v_ext, v_idxA, v_ld, v_st, v_app, v_appN, v_cvs, v_bs1, pBs1, v_slc, v_conv, v_fld, v_fldA, v_new, v_box, v_mks, v_copy, v_isnil, v_nilck, v_pick, ev, evs_nil, evs_cons, fr_get_cons, fr_put_nil, fr_put_cons, fr_put_some, fr_put_none, fr_keep_nil, fr_keep_cons, fr_has_nil, fr_has_cons, Option.bind_some, Option.map_some, xbin, ibin, xresult_eq, xress_nil, xress_tmp, resV, ex_some, if_true, if_false, ite_true, ite_false, reduceIte, reduceCtorEq, Nat.reduceEqDiff, Nat.reduceLT, Nat.reduceLeDiff, Int.reduceLT, Int.reduceLE, Nat.zero_add, Nat.reduceAdd, Bool.false_eq_true, decide_eq_true_eq, decide_eq_false_iff_not, true_implies, false_implies, and_true, true_and, hf, decide_false]
    exact hq H bs vs lst hs ho h8 rfl (Nat.le_refl _) (fun _ _ _ => rfl)
  | succ r ih =>
    intro j bs lst vs H N Q hs ho h8 hn hbl hj hN hq
    rw [run_loop]
    generalize hL : XCode.loop xbakekeep2_parts_l0 = L
    have hlt : (j : Int) < N := by omega
    simp only [xbakekeep2_parts_l0, ofArgs, run_seq, run_block, run_ops, run_skip, run_exit, run_ret, thenQ_normal, thenQ_exit, thenQ_ret, blockQ_normal, blockQ_exit, blockQ_ret, retQ_ret, retQ_normal, ops_nil, ops_none, got_some, ops_wT, ops_wTn, ops_wF, ops_wFn, ops_wU, dops_wT, dops_wTn, dops_wF, dops_wFn, dops_wU, run_condT, run_condF, alt2_int, altB_bool, altI_int, altBB_bool, v_min, v_max, v_not, v_neg, optEv_none, optEv_some, isSome'_none, isSome'_some, pExt0, pExt1, pExt2, Bool.false_and, Bool.true_and, Bool.not_true, Bool.not_false, cond_true, cond_false, dops_nil, dops_none, xval_call, v_mov, v_bin, v_len, v_ext, v_idxA, v_ld, v_st, v_app, v_appN, v_cvs, v_bs1, pBs1, v_slc, v_conv, v_fld, v_fldA, v_new, v_box, v_mks, v_copy, v_isnil, v_nilck, v_pick, ev, evs_nil, evs_cons, fr_get_cons, fr_put_nil, fr_put_cons, fr_put_some, fr_put_none, fr_keep_nil, fr_keep_cons, fr_has_nil, fr_has_cons, Option.bind_some, Option.map_some, xbin, ibin, xresult_eq, xress_nil, xress_tmp, resV, ex_some, if_true, if_false, ite_true, ite_false, reduceIte, reduceCtorEq, Nat.reduceEqDiff, Nat.reduceLT, Nat.reduceLeDiff, Int.reduceLT, Int.reduceLE, Nat.zero_add, Nat.reduceAdd, Bool.false_eq_true, decide_eq_true_eq, decide_eq_false_iff_not, true_implies, false_implies, and_true, true_and, hlt, decide_true]
    refine next_ok nS B vs lst 256 (by decide) (by decide) H _ hs ?_
    intro v1 H1 n1' g1 st1
    have z0 := Int.emod_nonneg (lst.headD 0) (by decide : (256 : Int) ≠ 0)
    have z1 := Int.emod_lt_of_pos (lst.headD 0) (by decide : (0 : Int) < 256)
    generalize lst.headD 0 % 256 = x at *
    have wx := wrU8' x z0 z1
    have x2 := hext_push H1 ⟨[.int .u8 x, .int .u8 161, .int .u8 0, .int .u8 255], 1, false, false⟩
    have hn2 : (H1.push ⟨[.int .u8 x, .int .u8 161, .int .u8 0, .int .u8 255], 1, false, false⟩).n = H1.n + 1 := rfl
    have hL4 := Sl.pushed H1 [.int .u8 x, .int .u8 161, .int .u8 0, .int .u8 255] 1 4 false false rfl
    simp only [ofArgs, run_seq, run_block, run_ops, run_skip, run_exit, run_ret, thenQ_normal, thenQ_exit, thenQ_ret, blockQ_normal, blockQ_exit, blockQ_ret, retQ_ret, retQ_normal, ops_nil, ops_none, got_some, ops_wT, ops_wTn, ops_wF, ops_wFn, ops_wU, dops_wT, dops_wTn, dops_wF, dops_wFn, dops_wU, run_condT, run_condF, alt2_int, altB_bool, altI_int, altBB_bool, v_min, v_max, v_not, v_neg, optEv_none, optEv_some, isSome'_none, isSome'_some, pExt0, pExt1, pExt2, Bool.false_and, Bool.true_and, Bool.not_true, Bool.not_false, cond_true, cond_false, dops_nil, dops_none, xval_call, v_mov, v_bin, v_len, v_ext, v_idxA, v_ld, v_st, v_app, v_appN, v_cvs, v_bs1, pBs1, v_slc, v_conv, v_fld, v_fldA, v_new, v_box, v_mks, v_copy, v_isnil, v_nilck, v_pick, ev, evs_nil, evs_cons, fr_get_cons, fr_put_nil, fr_put_cons, fr_put_some, fr_put_none, fr_keep_nil, fr_keep_cons, fr_has_nil, fr_has_cons, Option.bind_some, Option.map_some, xbin, ibin, xresult_eq, xress_nil, xress_tmp, resV, ex_some, if_true, if_false, ite_true, ite_false, reduceIte, reduceCtorEq, Nat.reduceEqDiff, Nat.reduceLT, Nat.reduceLeDiff, Int.reduceLT, Int.reduceLE, Nat.zero_add, Nat.reduceAdd, Bool.false_eq_true, decide_eq_true_eq, decide_eq_false_iff_not, true_implies, false_implies, and_true, true_and, pConv, wx, v_bs4, altN_int]
    generalize H1.push ⟨[.int .u8 x, .int .u8 161, .int .u8 0, .int .u8 255], 1, false, false⟩ = H2 at *
    have st2 : Strm nS H2 B v1 lst.tail := st1.same x2.1 (x2.2 B (by have := hs.lt; omega)) (fun b hb => x2.2 b (by have := hs.nb; have := hs.lt; omega))
    refine next_ok nS B v1 lst.tail 4 (by decide) (by decide) H2 _ st2 ?_
    intro v3 H3 n3' g3 st3
    have y0 := Int.emod_nonneg (lst.tail.headD 0) (by decide : (4 : Int) ≠ 0)
    have y1 := Int.emod_lt_of_pos (lst.tail.headD 0) (by decide : (0 : Int) < 4)
    generalize lst.tail.headD 0 % 4 = y at *
    obtain ⟨k, hk⟩ : ∃ k : Nat, y = (k : Int) := ⟨y.toNat, by omega⟩
    subst hk
    have hk4 : k < 4 := by omega
    have hBH := hs.lt
    have hL3 : Sl H3 1 (.slice (some ⟨H1.n, 0, none⟩) 4 4) 4 [.int .u8 x, .int .u8 161, .int .u8 0, .int .u8 255] := Sl.same hL4 (by omega) fun b hb => g3 b (by
      obtain ⟨o, l, c, e⟩ := hb
      simp only [Value.slice.injEq, Option.some.injEq, Addr.mk.injEq] at e
      omega)
    obtain ⟨c, hc, hc0, hc1⟩ : ∃ c : Int, [Value.int .u8 x, .int .u8 161, .int .u8 0, .int .u8 255][k]? = some (.int .u8 c) ∧ 0 ≤ c ∧ c < 256 := by
      rcases k with _ | _ | _ | _ | k
      · exact ⟨x, rfl, z0, z1⟩
      · exact ⟨161, rfl, by decide, by decide⟩
      · exact ⟨0, rfl, by decide, by decide⟩
      · exact ⟨255, rfl, by decide, by decide⟩
      · omega
    have e1 := pIdx_one hL3 .i64 (k : Int) k rfl hk4
    have e2 := pLd_one hL3 k _ hc
    have gg : ∀ d, d < H.n → d ≠ B → H3.get d = H.get d := fun d hd hd2 => (g3 d hd2).trans ((x2.2 d (by omega)).trans (g1 d hd2))
    have o3 : OwnB n2 H3 vb bs := Own.same ho (by omega) fun b hb => gg b (ho.1.lt hb) (by
      obtain ⟨o, l, c, e⟩ := hb
      have := (ho.2 b o l c e).1
      omega)
    have e3 := pIdx_one o3.1 .i64 (j : Int) j rfl (by omega)
    have w4 := wrI ((j : Int) + 1) (by omega) (by omega)
    simp only [ofArgs, run_seq, run_block, run_ops, run_skip, run_exit, run_ret, thenQ_normal, thenQ_exit, thenQ_ret, blockQ_normal, blockQ_exit, blockQ_ret, retQ_ret, retQ_normal, ops_nil, ops_none, got_some, ops_wT, ops_wTn, ops_wF, ops_wFn, ops_wU, dops_wT, dops_wTn, dops_wF, dops_wFn, dops_wU, run_condT, run_condF, alt2_int, altB_bool, altI_int, altBB_bool, v_min, v_max, v_not, v_neg, optEv_none, optEv_some, isSome'_none, isSome'_some, pExt0, pExt1, pExt2, Bool.false_and, Bool.true_and, Bool.not_true, Bool.not_false, cond_true, cond_false, dops_nil, dops_none, xval_call, v_mov, v_bin, v_len, v_ext, v_idxA, v_ld, v_st, v_app, v_appN, v_cvs, v_bs1, pBs1, v_slc, v_conv, v_fld, v_fldA, v_new, v_box, v_mks, v_copy, v_isnil, v_nilck, v_pick, ev, evs_nil, evs_cons, fr_get_cons, fr_put_nil, fr_put_cons, fr_put_some, fr_put_none, fr_keep_nil, fr_keep_cons, fr_has_nil, fr_has_cons, Option.bind_some, Option.map_some, xbin, ibin, xresult_eq, xress_nil, xress_tmp, resV, ex_some, if_true, if_false, ite_true, ite_false, reduceIte, reduceCtorEq, Nat.reduceEqDiff, Nat.reduceLT, Nat.reduceLeDiff, Int.reduceLT, Int.reduceLE, Nat.zero_add, Nat.reduceAdd, Bool.false_eq_true, decide_eq_true_eq, decide_eq_false_iff_not, true_implies, false_implies, and_true, true_and, e1, e2, e3]
    refine pSt_own o3 (by simp; omega) rfl rfl ?_
    intro H4 o4 s4
    have notv : ∀ d, d < n2 → ¬ inB vb d := fun d hd ⟨o, l, cc, e⟩ => by have := (o3.2 d o l cc e).1; omega
    have n34 := s4.n
    have nb := hs.nb
    have st4 : Strm nS H4 B v3 lst.tail.tail := st3.same s4.n (s4.get B (by omega) (notv B hBn)) (fun b hb => s4.get b (by omega) (notv b (by omega)))
    have o5 : OwnB n2 H4 vb (bs.set j c) := by
      have el : (bs.set j c).length = bs.length := by simp
      unfold OwnB
      rw [el]
      have em : (bs.set j c).map (Value.int .u8) = (bs.map (Value.int .u8)).set j (.int .u8 c) := by simp
      rw [em]; exact o4
    simp only [ofArgs, run_seq, run_block, run_ops, run_skip, run_exit, run_ret, thenQ_normal, thenQ_exit, thenQ_ret, blockQ_normal, blockQ_exit, blockQ_ret, retQ_ret, retQ_normal, ops_nil, ops_none, got_some, ops_wT, ops_wTn, ops_wF, ops_wFn, ops_wU, dops_wT, dops_wTn, dops_wF, dops_wFn, dops_wU, run_condT, run_condF, alt2_int, altB_bool, altI_int, altBB_bool, v_min, v_max, v_not, v_neg, optEv_none, optEv_some, isSome'_none, isSome'_some, pExt0, pExt1, pExt2, Bool.false_and, Bool.true_and, Bool.not_true, Bool.not_false, cond_true, cond_false, dops_nil, dops_none, xval_call, v_mov, v_bin, v_len, v_ext, v_idxA, v_ld, v_st, v_app, v_appN, v_cvs, v_bs1, pBs1, v_slc, v_conv, v_fld, v_fldA, v_new, v_box, v_mks, v_copy, v_isnil, v_nilck, v_pick, ev, evs_nil, evs_cons, fr_get_cons, fr_put_nil, fr_put_cons, fr_put_some, fr_put_none, fr_keep_nil, fr_keep_cons, fr_has_nil, fr_has_cons, Option.bind_some, Option.map_some, xbin, ibin, xresult_eq, xress_nil, xress_tmp, resV, ex_some, if_true, if_false, ite_true, ite_false, reduceIte, reduceCtorEq, Nat.reduceEqDiff, Nat.reduceLT, Nat.reduceLeDiff, Int.reduceLT, Int.reduceLE, Nat.zero_add, Nat.reduceAdd, Bool.false_eq_true, decide_eq_true_eq, decide_eq_false_iff_not, true_implies, false_implies, and_true, true_and, w4]
    subst hL
    refine ih (j + 1) (bs.set j c) lst.tail.tail v3 H4 N Q st4 o5 (fun b hb => ?_) (by omega) (by simpa using hbl) (by simp; omega) (by simpa using hN) ?_
    · rcases List.mem_or_eq_of_mem_set hb with h | h
      · exact h8 b h
      · subst h; exact ⟨hc0, hc1⟩
    · intro H5 bs' vs' lst' s5 o6 h86 hl6 hn5 hk5
      exact hq H5 bs' vs' lst' s5 o6 h86 (by simpa using hl6) (by omega) (fun d hd hd2 => (hk5 d hd hd2).trans ((s4.get d (by omega) (notv d hd)).trans (gg d (by omega) hd2)))

set_option maxHeartbeats 4000000 in
theorem parts_l1 (nS B n1 : Nat) (hBn : B < n1) (r : Nat) : ∀ (l : List T3) (vo : Value) (lst : List Int) (vs : Value) (H : AH) (i N : Int) (Q : XExit → Fr → AH → Prop), Strm nS H B vs lst → OutP n1 H vo l → n1 ≤ H.n → Canon (l.map strip) → l.length + r ≤ 10 → (∀ p ∈ l, p.2.1.length ≤ 5) → i + r = N → 0 ≤ i → N ≤ 10 →
    (∀ H' vo' l', OutP n1 H' vo' l' → Canon (l'.map strip) → l'.length ≤ 10 → (∀ p ∈ l', p.2.1.length ≤ 5) → H.n ≤ H'.n → (∀ d, d < n1 → d ≠ B → H'.get d = H.get d) → Q (.exit 0) [(3, .pointer (some ⟨B, 0, none⟩)), (4, vo'), (24, .int .i64 N), (25, .int .i64 N), (26, .bool false)] H') →
    Run Try.prog tab (.loop xbakekeep2_parts_l1) [(3, .pointer (some ⟨B, 0, none⟩)), (4, vo), (24, .int .i64 N), (25, .int .i64 i)] H Q := by
  induction r with
  | zero =>
    intro l vo lst vs H i N Q hs ho hn hc hl hp hi hi0 hN hq
    rw [run_loop]
    generalize hL : XCode.loop xbakekeep2_parts_l1 = L
    have hiN : i = N := by omega
    subst hiN
    have hf : ¬ i < i := by omega
    simp only [xbakekeep2_parts_l1, ofArgs, run_seq, run_block, run_ops, run_skip, run_exit, run_ret, thenQ_normal, thenQ_exit, thenQ_ret, blockQ_normal, blockQ_exit, blockQ_ret, retQ_ret, retQ_normal, ops_nil, ops_none, got_some, ops_wT, ops_wTn, ops_wF, ops_wFn, ops_wU, dops_wT, dops_wTn, dops_wF, dops_wFn, dops_wU, run_condT, run_condF, alt2_int, altB_bool, altI_int, altBB_bool, v_min, v_max, v_not, v_neg, optEv_none, optEv_some, isSome'_none, isSome'_some, pExt0, pExt1, pExt2, Bool.false_and, Bool.true_and, Bool.not_true, Bool.not_false, cond_true, cond_false, dops_nil, dops_none, xval_call, v_mov, v_bin, v_len, v_ext, v_idxA, v_ld, v_st, v_app, v_appN, v_cvs, v_bs1, pBs1, v_slc, v_conv, v_fld, v_fldA, v_new, v_box, v_mks, v_copy, v_isnil, v_nilck, v_pick, ev, evs_nil, evs_cons, fr_get_cons, fr_put_nil, fr_put_cons, fr_put_some, fr_put_none, fr_keep_nil, fr_keep_cons, fr_has_nil, fr_has_cons, Option.bind_some, Option.map_some, xbin, ibin, xresult_eq, xress_nil, xress_tmp, resV, ex_some, if_true, if_false, ite_true, ite_false, reduceIte, reduceCtorEq, Nat.reduceEqDiff, Nat.reduceLT, Nat.reduceLeDiff, Int.reduceLT, Int.reduceLE, Nat.zero_add, Nat.reduceAdd, Bool.false_eq_true, decide_eq_true_eq, decide_eq_false_iff_not, true_implies, false_implies, and_true, true_and, hf, decide_false]
    exact hq H vo l ho hc (by omega) hp (Nat.le_refl _) (fun _ _ _ => rfl)
  | succ r ih =>
    intro l vo lst vs H i N Q hs ho hn hc hl hp hi hi0 hN hq
    rw [run_loop]
    generalize hL : XCode.loop xbakekeep2_parts_l1 = L
    have hlt : i < N := by omega
    simp only [xbakekeep2_parts_l1, ofArgs, run_seq, run_block, run_ops, run_skip, run_exit, run_ret, thenQ_normal, thenQ_exit, thenQ_ret, blockQ_normal, blockQ_exit, blockQ_ret, retQ_ret, retQ_normal, ops_nil, ops_none, got_some, ops_wT, ops_wTn, ops_wF, ops_wFn, ops_wU, dops_wT, dops_wTn, dops_wF, dops_wFn, dops_wU, run_condT, run_condF, alt2_int, altB_bool, altI_int, altBB_bool, v_min, v_max, v_not, v_neg, optEv_none, optEv_some, isSome'_none, isSome'_some, pExt0, pExt1, pExt2, Bool.false_and, Bool.true_and, Bool.not_true, Bool.not_false, cond_true, cond_false, dops_nil, dops_none, xval_call, v_mov, v_bin, v_len, v_ext, v_idxA, v_ld, v_st, v_app, v_appN, v_cvs, v_bs1, pBs1, v_slc, v_conv, v_fld, v_fldA, v_new, v_box, v_mks, v_copy, v_isnil, v_nilck, v_pick, ev, evs_nil, evs_cons, fr_get_cons, fr_put_nil, fr_put_cons, fr_put_some, fr_put_none, fr_keep_nil, fr_keep_cons, fr_has_nil, fr_has_cons, Option.bind_some, Option.map_some, xbin, ibin, xresult_eq, xress_nil, xress_tmp, resV, ex_some, if_true, if_false, ite_true, ite_false, reduceIte, reduceCtorEq, Nat.reduceEqDiff, Nat.reduceLT, Nat.reduceLeDiff, Int.reduceLT, Int.reduceLE, Nat.zero_add, Nat.reduceAdd, Bool.false_eq_true, decide_eq_true_eq, decide_eq_false_iff_not, true_implies, false_implies, and_true, true_and, hlt, decide_true]
    refine next_ok nS B vs lst 6 (by decide) (by decide) H _ hs ?_
    intro v1 H1 n1' g1 st1
    have z0 := Int.emod_nonneg (lst.headD 0) (by decide : (6 : Int) ≠ 0)
    have z1 := Int.emod_lt_of_pos (lst.headD 0) (by decide : (0 : Int) < 6)
    generalize lst.headD 0 % 6 = x at *
    obtain ⟨k, hk⟩ : ∃ k : Nat, x = (k : Int) := ⟨x.toNat, by omega⟩
    subst hk
    have hmk := pMks_ok (.int .u8 0) k (by omega) .i64 H1 (k : Int) rfl
    have x2 := hext_push H1 ⟨rep k [.int .u8 0], 1, false, false⟩
    have hn2 : (H1.push ⟨rep k [.int .u8 0], 1, false, false⟩).n = H1.n + 1 := rfl
    have ob : OwnB H1.n (H1.push ⟨rep k [.int .u8 0], 1, false, false⟩) (.slice (some ⟨H1.n, 0, none⟩) k k) (List.replicate k 0) := by
      have hp := Own.pushed H1 (rep k [.int .u8 0]) 1 k false (by rw [rep_length]; simp)
      unfold OwnB
      rw [rep_one] at hp
      simpa [rep_one] using hp
    have hlen : ∀ H, pLen (.slice (some ⟨H1.n, 0, none⟩) k k) H = some (.int .i64 (k : Int), H) := fun _ => rfl
    simp only [ofArgs, run_seq, run_block, run_ops, run_skip, run_exit, run_ret, thenQ_normal, thenQ_exit, thenQ_ret, blockQ_normal, blockQ_exit, blockQ_ret, retQ_ret, retQ_normal, ops_nil, ops_none, got_some, ops_wT, ops_wTn, ops_wF, ops_wFn, ops_wU, dops_wT, dops_wTn, dops_wF, dops_wFn, dops_wU, run_condT, run_condF, alt2_int, altB_bool, altI_int, altBB_bool, v_min, v_max, v_not, v_neg, optEv_none, optEv_some, isSome'_none, isSome'_some, pExt0, pExt1, pExt2, Bool.false_and, Bool.true_and, Bool.not_true, Bool.not_false, cond_true, cond_false, dops_nil, dops_none, xval_call, v_mov, v_bin, v_len, v_ext, v_idxA, v_ld, v_st, v_app, v_appN, v_cvs, v_bs1, pBs1, v_slc, v_conv, v_fld, v_fldA, v_new, v_box, v_mks, v_copy, v_isnil, v_nilck, v_pick, ev, evs_nil, evs_cons, fr_get_cons, fr_put_nil, fr_put_cons, fr_put_some, fr_put_none, fr_keep_nil, fr_keep_cons, fr_has_nil, fr_has_cons, Option.bind_some, Option.map_some, xbin, ibin, xresult_eq, xress_nil, xress_tmp, resV, ex_some, if_true, if_false, ite_true, ite_false, reduceIte, reduceCtorEq, Nat.reduceEqDiff, Nat.reduceLT, Nat.reduceLeDiff, Int.reduceLT, Int.reduceLE, Nat.zero_add, Nat.reduceAdd, Bool.false_eq_true, decide_eq_true_eq, decide_eq_false_iff_not, true_implies, false_implies, and_true, true_and, hmk, hlen]
    generalize H1.push ⟨rep k [.int .u8 0], 1, false, false⟩ = H2 at *
    have hBH := hs.lt
    have nb := hs.nb
    have st2 : Strm nS H2 B v1 lst.tail := st1.same x2.1 (x2.2 B (by omega)) (fun b hb => x2.2 b (by omega))
    have ho1 : OutP n1 H1 vo l := ho.same (by omega) fun b hb hb2 => g1 b (by omega)
    have ho2 : OutP n1 H2 vo l := ho1.ext x2
    refine parts_l0 nS B H1.n (.slice (some ⟨H1.n, 0, none⟩) k k) vo (by omega) N i k 0 (List.replicate k 0) lst.tail v1 H2 (k : Int) _ st2 ob (fun b hb => by have := List.eq_of_mem_replicate hb; omega) (by omega) (by simp; omega) (by simp) (by simp) ?_
    intro H3 bs v3 lst3 st3 ob3 h83 hl3 n23 k3
    rw [List.length_replicate] at hl3
    have ho3 : OutP n1 H3 vo l := ho1.same (by omega) fun b hb hb2 => (k3 b hb2 (by omega)).trans (x2.2 b hb2)
    obtain ⟨s1, s2⟩ := slice_one ob3.1
    have w4 := wrI (i + 1) (by omega) (by omega)
    simp only [ofArgs, run_seq, run_block, run_ops, run_skip, run_exit, run_ret, thenQ_normal, thenQ_exit, thenQ_ret, blockQ_normal, blockQ_exit, blockQ_ret, retQ_ret, retQ_normal, ops_nil, ops_none, got_some, ops_wT, ops_wTn, ops_wF, ops_wFn, ops_wU, dops_wT, dops_wTn, dops_wF, dops_wFn, dops_wU, run_condT, run_condF, alt2_int, altB_bool, altI_int, altBB_bool, v_min, v_max, v_not, v_neg, optEv_none, optEv_some, isSome'_none, isSome'_some, pExt0, pExt1, pExt2, Bool.false_and, Bool.true_and, Bool.not_true, Bool.not_false, cond_true, cond_false, dops_nil, dops_none, xval_call, v_mov, v_bin, v_len, v_ext, v_idxA, v_ld, v_st, v_app, v_appN, v_cvs, v_bs1, pBs1, v_slc, v_conv, v_fld, v_fldA, v_new, v_box, v_mks, v_copy, v_isnil, v_nilck, v_pick, ev, evs_nil, evs_cons, fr_get_cons, fr_put_nil, fr_put_cons, fr_put_some, fr_put_none, fr_keep_nil, fr_keep_cons, fr_has_nil, fr_has_cons, Option.bind_some, Option.map_some, xbin, ibin, xresult_eq, xress_nil, xress_tmp, resV, ex_some, if_true, if_false, ite_true, ite_false, reduceIte, reduceCtorEq, Nat.reduceEqDiff, Nat.reduceLT, Nat.reduceLeDiff, Int.reduceLT, Int.reduceLE, Nat.zero_add, Nat.reduceAdd, Bool.false_eq_true, decide_eq_true_eq, decide_eq_false_iff_not, true_implies, false_implies, and_true, true_and, v_b2t, pB2_sl, v_bs21, pS2_sl]
    refine out_push n1 H3 vo l true _ bs ho3 (by omega) (by omega) (ob3.le (by omega)) (fun b hb hv => ?_) (fun p hp b hb hv => ?_) _ ?_
    · have h1 := ho.own.1.lt hv
      obtain ⟨o, a, cc, e⟩ := hb
      have := (ob3.2 b o a cc e).1
      omega
    · have h1 := (ho.byt p hp).1.lt hb
      obtain ⟨o, a, cc, e⟩ := hv
      have := (ob3.2 b o a cc e).1
      omega
    intro vo' H4 o4 k4 g4
    have notv : ∀ d, d < n1 → ¬ inB vo d := fun d hd ⟨o, l, cc, e⟩ => by have := (ho.own.2 d o l cc e).1; omega
    have n34 := k4.1
    have st4 : Strm nS H4 B v3 lst3 := st3.same k4.1 (k4.2 B hBn) (fun b hb => k4.2 b (by omega))
    simp only [ofArgs, run_seq, run_block, run_ops, run_skip, run_exit, run_ret, thenQ_normal, thenQ_exit, thenQ_ret, blockQ_normal, blockQ_exit, blockQ_ret, retQ_ret, retQ_normal, ops_nil, ops_none, got_some, ops_wT, ops_wTn, ops_wF, ops_wFn, ops_wU, dops_wT, dops_wTn, dops_wF, dops_wFn, dops_wU, run_condT, run_condF, alt2_int, altB_bool, altI_int, altBB_bool, v_min, v_max, v_not, v_neg, optEv_none, optEv_some, isSome'_none, isSome'_some, pExt0, pExt1, pExt2, Bool.false_and, Bool.true_and, Bool.not_true, Bool.not_false, cond_true, cond_false, dops_nil, dops_none, xval_call, v_mov, v_bin, v_len, v_ext, v_idxA, v_ld, v_st, v_app, v_appN, v_cvs, v_bs1, pBs1, v_slc, v_conv, v_fld, v_fldA, v_new, v_box, v_mks, v_copy, v_isnil, v_nilck, v_pick, ev, evs_nil, evs_cons, fr_get_cons, fr_put_nil, fr_put_cons, fr_put_some, fr_put_none, fr_keep_nil, fr_keep_cons, fr_has_nil, fr_has_cons, Option.bind_some, Option.map_some, xbin, ibin, xresult_eq, xress_nil, xress_tmp, resV, ex_some, if_true, if_false, ite_true, ite_false, reduceIte, reduceCtorEq, Nat.reduceEqDiff, Nat.reduceLT, Nat.reduceLeDiff, Int.reduceLT, Int.reduceLE, Nat.zero_add, Nat.reduceAdd, Bool.false_eq_true, decide_eq_true_eq, decide_eq_false_iff_not, true_implies, false_implies, and_true, true_and, w4]
    subst hL
    refine ih (l ++ [(true, bs, _)]) vo' lst3 v3 H4 (i + 1) N Q st4 o4 (by omega) (by rw [List.map_append]; exact canon_snoc _ bs hc h83) (by simp; omega) (fun p hp' => ?_) (by omega) (by omega) hN ?_
    · rcases List.mem_append.1 hp' with h | h
      · exact hp p h
      · simp only [List.mem_singleton] at h; subst h; show bs.length ≤ 5; omega
    · intro H5 vo5 l5 o5 c5 l5l p5 n5 k5
      refine hq H5 vo5 l5 o5 c5 l5l p5 (by omega) (fun d hd hd2 => (k5 d hd hd2).trans ((k4.2 d hd).trans ((k3 d (by omega) hd2).trans ((x2.2 d (by omega)).trans (g1 d hd2)))))
end Go.Proofs.Ytejedmocjdcdgaa.D

set_option linter.unusedSimpArgs false
set_option linter.unusedVariables false
namespace Go.Proofs.Ytejedmocjdcdgaa.D
open Go Go.Det

set_option maxHeartbeats 4000000 in
theorem parts_ok (l : List Int) (s : Value) (H : AH) (Q : Value → AH → Prop) (hs : Ints H s l) (hq : ∀ vo l' H', OutP H.n H' vo l' → Canon (l'.map strip) → l'.length ≤ 10 → (∀ p ∈ l', p.2.1.length ≤ 5) → HExt H H' → Q vo H') :
    Got (xc Try.prog tab 28 [s] H) Q := by
  refine got_call (res := [.tmp 2]) rfl ?_
  obtain ⟨q1, q2⟩ := slice_one hs
  have e2 := fun H => pMk1_slice H q1 q2
  have x1 := hext_push H ⟨[s], 1, false, false⟩
  have hn1 : (H.push ⟨[s], 1, false, false⟩).n = H.n + 1 := rfl
  have hst1 : Strm H.n (H.push ⟨[s], 1, false, false⟩) H.n s l := ⟨Nat.le_refl _, by omega, by rw [AH.get_push, if_pos rfl], Sl.ext x1 hs, fun b hb => Sl.lt hs hb⟩
  generalize hT : ((.seq (.seq (.ops [⟨some 12, .mov (.tmp 3), none⟩, ⟨some 13, .call 67 [.tmp 12, .const (.int .i64 5)], none⟩, ⟨some 5, .mov (.tmp 13), none⟩] [0, 3, 4, 5]) (.seq (.ops [⟨some 14, .mov (.tmp 5), none⟩, ⟨some 15, .bin .gtr (.tmp 14) (.const (.int .i64 0)), none⟩] [0, 3, 4, 5, 15]) (.cond (.tmp 15) (.ops [⟨some 16, .mov (.tmp 4), none⟩, ⟨some 17, .mov (.tmp 0), none⟩, ⟨some 18, .mov (.tmp 5), none⟩, ⟨some 19, .call 46 [.tmp 17, .tmp 18], none⟩, ⟨some 20, .build [.bool false, .slice none 0 0] [(1, 1, .tmp 19)], none⟩, ⟨some 21, .bslice 55 2 1 [.bool false, .slice none 0 0] [(0, .tmp 20)], none⟩, ⟨some 22, .app 55 2 32 [.bool false, .slice none 0 0] (.tmp 16) (.tmp 21), none⟩, ⟨some 4, .mov (.tmp 22), none⟩] [3, 4]) .skip))) (.seq (.seq (.ops [⟨some 23, .mov (.tmp 3), none⟩, ⟨some 24, .call 67 [.tmp 23, .const (.int .i64 5)], none⟩, ⟨some 25, .mov (.const (.int .i64 0)), none⟩] [3, 4, 24, 25]) (.block 0 (.loop xbakekeep2_parts_l1))) (.seq (.ops [⟨some 53, .mov (.tmp 4), none⟩, ⟨some 2, .mov (.tmp 53), none⟩] [2]) .ret))) : XCode) = T
  simp only [ofArgs, run_seq, run_block, run_ops, run_skip, run_exit, run_ret, thenQ_normal, thenQ_exit, thenQ_ret, blockQ_normal, blockQ_exit, blockQ_ret, retQ_ret, retQ_normal, ops_nil, ops_none, got_some, ops_wT, ops_wTn, ops_wF, ops_wFn, ops_wU, dops_wT, dops_wTn, dops_wF, dops_wFn, dops_wU, run_condT, run_condF, alt2_int, altB_bool, altI_int, altBB_bool, v_min, v_max, v_not, v_neg, optEv_none, optEv_some, isSome'_none, isSome'_some, pExt0, pExt1, pExt2, Bool.false_and, Bool.true_and, Bool.not_true, Bool.not_false, cond_true, cond_false, dops_nil, dops_none, xval_call, v_mov, v_bin, v_len, v_ext, v_idxA, v_ld, v_st, v_app, v_appN, v_cvs, v_bs1, pBs1, v_slc, v_conv, v_fld, v_fldA, v_new, v_box, v_mks, v_copy, v_isnil, v_nilck, v_pick, ev, evs_nil, evs_cons, fr_get_cons, fr_put_nil, fr_put_cons, fr_put_some, fr_put_none, fr_keep_nil, fr_keep_cons, fr_has_nil, fr_has_cons, Option.bind_some, Option.map_some, xbin, ibin, xresult_eq, xress_nil, xress_tmp, resV, ex_some, if_true, if_false, ite_true, ite_false, reduceIte, reduceCtorEq, Nat.reduceEqDiff, Nat.reduceLT, Nat.reduceLeDiff, Int.reduceLT, Int.reduceLE, Nat.zero_add, Nat.reduceAdd, Bool.false_eq_true, decide_eq_true_eq, decide_eq_false_iff_not, true_implies, false_implies, and_true, true_and, v_mk1, e2, box1, v_bs02]
  generalize H.push ⟨[s], 1, false, false⟩ = H1 at *
  have x2 := hext_push H1 ⟨[], 2, false, false⟩
  have hn2 : (H1.push ⟨[], 2, false, false⟩).n = H1.n + 1 := rfl
  have ov : Own H1.n 2 (H1.push ⟨[], 2, false, false⟩) (.slice (some ⟨H1.n, 0, none⟩) 0 0) 0 [] := Own.pushed H1 [] 2 0 false rfl
  generalize H1.push ⟨[], 2, false, false⟩ = H2 at *
  have st2 : Strm H.n H2 H.n s l := hst1.same x2.1 (x2.2 _ (by omega)) (fun b hb => x2.2 b (by omega))
  have op2 : OutP (H.n + 1) H2 (.slice (some ⟨H1.n, 0, none⟩) 0 0) [] := ⟨ov.le (by omega), fun p hp => by simp at hp, fun p hp => by simp at hp, .nil⟩
  subst hT
  generalize hT : ((.seq (.seq (.ops [⟨some 23, .mov (.tmp 3), none⟩, ⟨some 24, .call 67 [.tmp 23, .const (.int .i64 5)], none⟩, ⟨some 25, .mov (.const (.int .i64 0)), none⟩] [3, 4, 24, 25]) (.block 0 (.loop xbakekeep2_parts_l1))) (.seq (.ops [⟨some 53, .mov (.tmp 4), none⟩, ⟨some 2, .mov (.tmp 53), none⟩] [2]) .ret)) : XCode) = T
  simp only [ofArgs, run_seq, run_block, run_ops, run_skip, run_exit, run_ret, thenQ_normal, thenQ_exit, thenQ_ret, blockQ_normal, blockQ_exit, blockQ_ret, retQ_ret, retQ_normal, ops_nil, ops_none, got_some, ops_wT, ops_wTn, ops_wF, ops_wFn, ops_wU, dops_wT, dops_wTn, dops_wF, dops_wFn, dops_wU, run_condT, run_condF, alt2_int, altB_bool, altI_int, altBB_bool, v_min, v_max, v_not, v_neg, optEv_none, optEv_some, isSome'_none, isSome'_some, pExt0, pExt1, pExt2, Bool.false_and, Bool.true_and, Bool.not_true, Bool.not_false, cond_true, cond_false, dops_nil, dops_none, xval_call, v_mov, v_bin, v_len, v_ext, v_idxA, v_ld, v_st, v_app, v_appN, v_cvs, v_bs1, pBs1, v_slc, v_conv, v_fld, v_fldA, v_new, v_box, v_mks, v_copy, v_isnil, v_nilck, v_pick, ev, evs_nil, evs_cons, fr_get_cons, fr_put_nil, fr_put_cons, fr_put_some, fr_put_none, fr_keep_nil, fr_keep_cons, fr_has_nil, fr_has_cons, Option.bind_some, Option.map_some, xbin, ibin, xresult_eq, xress_nil, xress_tmp, resV, ex_some, if_true, if_false, ite_true, ite_false, reduceIte, reduceCtorEq, Nat.reduceEqDiff, Nat.reduceLT, Nat.reduceLeDiff, Int.reduceLT, Int.reduceLE, Nat.zero_add, Nat.reduceAdd, Bool.false_eq_true, decide_eq_true_eq, decide_eq_false_iff_not, true_implies, false_implies, and_true, true_and]
  refine next_ok H.n H.n s l 5 (by decide) (by decide) H2 _ st2 ?_
  intro v3 H3 n3 g3 st3
  have z0 := Int.emod_nonneg (l.headD 0) (by decide : (5 : Int) ≠ 0)
  have z1 := Int.emod_lt_of_pos (l.headD 0) (by decide : (0 : Int) < 5)
  generalize l.headD 0 % 5 = x at *
  obtain ⟨k, hk⟩ : ∃ k : Nat, x = (k : Int) := ⟨x.toNat, by omega⟩
  subst hk
  have op3 : OutP (H.n + 1) H3 (.slice (some ⟨H1.n, 0, none⟩) 0 0) [] := op2.same (by omega) fun b hb _ => g3 b (by omega)
  -- what follows the first part
  have rest : ∀ H5 vo l5 v5, OutP (H.n + 1) H5 vo l5 → Canon (l5.map strip) → l5.length ≤ 1 → (∀ p ∈ l5, p.2.1.length ≤ 5) → Strm H.n H5 H.n v5 l.tail → H.n + 1 ≤ H5.n → (∀ d, d < H.n → H5.get d = H.get d) →
      ∀ N : Int, 0 ≤ N → N < 5 → ∀ v6 H6 lst6, H6.n = H5.n → (∀ b, b ≠ H.n → H6.get b = H5.get b) → Strm H.n H6 H.n v6 lst6 → Run Try.prog tab (.loop xbakekeep2_parts_l1) [(3, .pointer (some ⟨H.n, 0, none⟩)), (4, vo), (24, .int .i64 N), (25, .int .i64 0)] H6 (blockQ 0 fun e fr H => thenQ (fun fr H => Run Try.prog tab ((.seq (.ops [⟨some 53, .mov (.tmp 4), none⟩, ⟨some 2, .mov (.tmp 53), none⟩] [2]) .ret)) fr H (retQ [.tmp 2] Q)) (retQ [.tmp 2] Q) e fr H) := by
    intro H5 vo l5 v5 o5 c5 ll5 p5 s5 n5 k5 N hN0 hN5 v6 H6 lst6 n6 g6 s6
    obtain ⟨r, hr⟩ : ∃ r : Nat, N = (r : Int) := ⟨N.toNat, by omega⟩
    have o6 : OutP (H.n + 1) H6 vo l5 := o5.same (by omega) fun b hb _ => g6 b (by omega)
    refine parts_l1 H.n H.n (H.n + 1) (by omega) r l5 vo lst6 v6 H6 0 N _ s6 o6 (by omega) c5 (by omega) p5 (by omega) (by omega) (by omega) ?_
    intro H7 vo7 l7 o7 c7 ll7 p7 n7 k7
    simp only [ofArgs, run_seq, run_block, run_ops, run_skip, run_exit, run_ret, thenQ_normal, thenQ_exit, thenQ_ret, blockQ_normal, blockQ_exit, blockQ_ret, retQ_ret, retQ_normal, ops_nil, ops_none, got_some, ops_wT, ops_wTn, ops_wF, ops_wFn, ops_wU, dops_wT, dops_wTn, dops_wF, dops_wFn, dops_wU, run_condT, run_condF, alt2_int, altB_bool, altI_int, altBB_bool, v_min, v_max, v_not, v_neg, optEv_none, optEv_some, isSome'_none, isSome'_some, pExt0, pExt1, pExt2, Bool.false_and, Bool.true_and, Bool.not_true, Bool.not_false, cond_true, cond_false, dops_nil, dops_none, xval_call, v_mov, v_bin, v_len, v_ext, v_idxA, v_ld, v_st, v_app, v_appN, v_cvs, v_bs1, pBs1, v_slc, v_conv, v_fld, v_fldA, v_new, v_box, v_mks, v_copy, v_isnil, v_nilck, v_pick, ev, evs_nil, evs_cons, fr_get_cons, fr_put_nil, fr_put_cons, fr_put_some, fr_put_none, fr_keep_nil, fr_keep_cons, fr_has_nil, fr_has_cons, Option.bind_some, Option.map_some, xbin, ibin, xresult_eq, xress_nil, xress_tmp, resV, ex_some, if_true, if_false, ite_true, ite_false, reduceIte, reduceCtorEq, Nat.reduceEqDiff, Nat.reduceLT, Nat.reduceLeDiff, Int.reduceLT, Int.reduceLE, Nat.zero_add, Nat.reduceAdd, Bool.false_eq_true, decide_eq_true_eq, decide_eq_false_iff_not, true_implies, false_implies, and_true, true_and]
    refine hq vo7 l7 H7 (o7.le (by omega)) c7 ll7 p7 ⟨by omega, fun d hd => ?_⟩
    exact (k7 d (by omega) (by omega)).trans ((g6 d (by omega)).trans (k5 d hd))
  have k3 : ∀ d, d < H.n → H3.get d = H.get d := fun d hd => (g3 d (by omega)).trans ((x2.2 d (by omega)).trans (x1.2 d hd))
  by_cases hk0 : k = 0
  · subst hk0
    have c0 : ¬ ((0 : Nat) : Int) > 0 := by omega
    simp only [ofArgs, run_seq, run_block, run_ops, run_skip, run_exit, run_ret, thenQ_normal, thenQ_exit, thenQ_ret, blockQ_normal, blockQ_exit, blockQ_ret, retQ_ret, retQ_normal, ops_nil, ops_none, got_some, ops_wT, ops_wTn, ops_wF, ops_wFn, ops_wU, dops_wT, dops_wTn, dops_wF, dops_wFn, dops_wU, run_condT, run_condF, alt2_int, altB_bool, altI_int, altBB_bool, v_min, v_max, v_not, v_neg, optEv_none, optEv_some, isSome'_none, isSome'_some, pExt0, pExt1, pExt2, Bool.false_and, Bool.true_and, Bool.not_true, Bool.not_false, cond_true, cond_false, dops_nil, dops_none, xval_call, v_mov, v_bin, v_len, v_ext, v_idxA, v_ld, v_st, v_app, v_appN, v_cvs, v_bs1, pBs1, v_slc, v_conv, v_fld, v_fldA, v_new, v_box, v_mks, v_copy, v_isnil, v_nilck, v_pick, ev, evs_nil, evs_cons, fr_get_cons, fr_put_nil, fr_put_cons, fr_put_some, fr_put_none, fr_keep_nil, fr_keep_cons, fr_has_nil, fr_has_cons, Option.bind_some, Option.map_some, xbin, ibin, xresult_eq, xress_nil, xress_tmp, resV, ex_some, if_true, if_false, ite_true, ite_false, reduceIte, reduceCtorEq, Nat.reduceEqDiff, Nat.reduceLT, Nat.reduceLeDiff, Int.reduceLT, Int.reduceLE, Nat.zero_add, Nat.reduceAdd, Bool.false_eq_true, decide_eq_true_eq, decide_eq_false_iff_not, true_implies, false_implies, and_true, true_and, c0, decide_false]
    subst hT
    simp only [ofArgs, run_seq, run_block, run_ops, run_skip, run_exit, run_ret, thenQ_normal, thenQ_exit, thenQ_ret, blockQ_normal, blockQ_exit, blockQ_ret, retQ_ret, retQ_normal, ops_nil, ops_none, got_some, ops_wT, ops_wTn, ops_wF, ops_wFn, ops_wU, dops_wT, dops_wTn, dops_wF, dops_wFn, dops_wU, run_condT, run_condF, alt2_int, altB_bool, altI_int, altBB_bool, v_min, v_max, v_not, v_neg, optEv_none, optEv_some, isSome'_none, isSome'_some, pExt0, pExt1, pExt2, Bool.false_and, Bool.true_and, Bool.not_true, Bool.not_false, cond_true, cond_false, dops_nil, dops_none, xval_call, v_mov, v_bin, v_len, v_ext, v_idxA, v_ld, v_st, v_app, v_appN, v_cvs, v_bs1, pBs1, v_slc, v_conv, v_fld, v_fldA, v_new, v_box, v_mks, v_copy, v_isnil, v_nilck, v_pick, ev, evs_nil, evs_cons, fr_get_cons, fr_put_nil, fr_put_cons, fr_put_some, fr_put_none, fr_keep_nil, fr_keep_cons, fr_has_nil, fr_has_cons, Option.bind_some, Option.map_some, xbin, ibin, xresult_eq, xress_nil, xress_tmp, resV, ex_some, if_true, if_false, ite_true, ite_false, reduceIte, reduceCtorEq, Nat.reduceEqDiff, Nat.reduceLT, Nat.reduceLeDiff, Int.reduceLT, Int.reduceLE, Nat.zero_add, Nat.reduceAdd, Bool.false_eq_true, decide_eq_true_eq, decide_eq_false_iff_not, true_implies, false_implies, and_true, true_and]
    refine next_ok H.n H.n v3 l.tail 5 (by decide) (by decide) H3 _ st3 ?_
    intro v6 H6 n6 g6 s6
    have y0 := Int.emod_nonneg (l.tail.headD 0) (by decide : (5 : Int) ≠ 0)
    have y1 := Int.emod_lt_of_pos (l.tail.headD 0) (by decide : (0 : Int) < 5)
    generalize l.tail.headD 0 % 5 = N at *
    have := rest H3 _ [] v3 op3 ⟨fun p hp => by simp at hp, fun p hp => by simp at hp, fun p hp => by simp at hp⟩ (by simp) (fun p hp => by simp at hp) st3 (by omega) k3 N y0 y1 v6 H6 _ n6 g6 s6
    simp only [ofArgs, run_seq, run_block, run_ops, run_skip, run_exit, run_ret, thenQ_normal, thenQ_exit, thenQ_ret, blockQ_normal, blockQ_exit, blockQ_ret, retQ_ret, retQ_normal, ops_nil, ops_none, got_some, ops_wT, ops_wTn, ops_wF, ops_wFn, ops_wU, dops_wT, dops_wTn, dops_wF, dops_wFn, dops_wU, run_condT, run_condF, alt2_int, altB_bool, altI_int, altBB_bool, v_min, v_max, v_not, v_neg, optEv_none, optEv_some, isSome'_none, isSome'_some, pExt0, pExt1, pExt2, Bool.false_and, Bool.true_and, Bool.not_true, Bool.not_false, cond_true, cond_false, dops_nil, dops_none, xval_call, v_mov, v_bin, v_len, v_ext, v_idxA, v_ld, v_st, v_app, v_appN, v_cvs, v_bs1, pBs1, v_slc, v_conv, v_fld, v_fldA, v_new, v_box, v_mks, v_copy, v_isnil, v_nilck, v_pick, ev, evs_nil, evs_cons, fr_get_cons, fr_put_nil, fr_put_cons, fr_put_some, fr_put_none, fr_keep_nil, fr_keep_cons, fr_has_nil, fr_has_cons, Option.bind_some, Option.map_some, xbin, ibin, xresult_eq, xress_nil, xress_tmp, resV, ex_some, if_true, if_false, ite_true, ite_false, reduceIte, reduceCtorEq, Nat.reduceEqDiff, Nat.reduceLT, Nat.reduceLeDiff, Int.reduceLT, Int.reduceLE, Nat.zero_add, Nat.reduceAdd, Bool.false_eq_true, decide_eq_true_eq, decide_eq_false_iff_not, true_implies, false_implies, and_true, true_and] at this ⊢
    exact this
  · have c0 : ((k : Nat) : Int) > 0 := by omega
    simp only [ofArgs, run_seq, run_block, run_ops, run_skip, run_exit, run_ret, thenQ_normal, thenQ_exit, thenQ_ret, blockQ_normal, blockQ_exit, blockQ_ret, retQ_ret, retQ_normal, ops_nil, ops_none, got_some, ops_wT, ops_wTn, ops_wF, ops_wFn, ops_wU, dops_wT, dops_wTn, dops_wF, dops_wFn, dops_wU, run_condT, run_condF, alt2_int, altB_bool, altI_int, altBB_bool, v_min, v_max, v_not, v_neg, optEv_none, optEv_some, isSome'_none, isSome'_some, pExt0, pExt1, pExt2, Bool.false_and, Bool.true_and, Bool.not_true, Bool.not_false, cond_true, cond_false, dops_nil, dops_none, xval_call, v_mov, v_bin, v_len, v_ext, v_idxA, v_ld, v_st, v_app, v_appN, v_cvs, v_bs1, pBs1, v_slc, v_conv, v_fld, v_fldA, v_new, v_box, v_mks, v_copy, v_isnil, v_nilck, v_pick, ev, evs_nil, evs_cons, fr_get_cons, fr_put_nil, fr_put_cons, fr_put_some, fr_put_none, fr_keep_nil, fr_keep_cons, fr_has_nil, fr_has_cons, Option.bind_some, Option.map_some, xbin, ibin, xresult_eq, xress_nil, xress_tmp, resV, ex_some, if_true, if_false, ite_true, ite_false, reduceIte, reduceCtorEq, Nat.reduceEqDiff, Nat.reduceLT, Nat.reduceLeDiff, Int.reduceLT, Int.reduceLE, Nat.zero_add, Nat.reduceAdd, Bool.false_eq_true, decide_eq_true_eq, decide_eq_false_iff_not, true_implies, false_implies, and_true, true_and, c0, decide_true]
    have hs3 : Ints H3 s l := Sl.same hs (by omega) fun b hb => k3 b (Sl.lt hs hb)
    refine Bytes_ok l k (by omega) s H3 _ hs3 ?_
    intro vb H4 o4 x4
    obtain ⟨s1, s2⟩ := slice_one o4.1
    have pb := fun H => pB2_of (.bool false) vb H s1 s2
    have ps := fun H => pS2_of false vb H s1
    simp only [ofArgs, run_seq, run_block, run_ops, run_skip, run_exit, run_ret, thenQ_normal, thenQ_exit, thenQ_ret, blockQ_normal, blockQ_exit, blockQ_ret, retQ_ret, retQ_normal, ops_nil, ops_none, got_some, ops_wT, ops_wTn, ops_wF, ops_wFn, ops_wU, dops_wT, dops_wTn, dops_wF, dops_wFn, dops_wU, run_condT, run_condF, alt2_int, altB_bool, altI_int, altBB_bool, v_min, v_max, v_not, v_neg, optEv_none, optEv_some, isSome'_none, isSome'_some, pExt0, pExt1, pExt2, Bool.false_and, Bool.true_and, Bool.not_true, Bool.not_false, cond_true, cond_false, dops_nil, dops_none, xval_call, v_mov, v_bin, v_len, v_ext, v_idxA, v_ld, v_st, v_app, v_appN, v_cvs, v_bs1, pBs1, v_slc, v_conv, v_fld, v_fldA, v_new, v_box, v_mks, v_copy, v_isnil, v_nilck, v_pick, ev, evs_nil, evs_cons, fr_get_cons, fr_put_nil, fr_put_cons, fr_put_some, fr_put_none, fr_keep_nil, fr_keep_cons, fr_has_nil, fr_has_cons, Option.bind_some, Option.map_some, xbin, ibin, xresult_eq, xress_nil, xress_tmp, resV, ex_some, if_true, if_false, ite_true, ite_false, reduceIte, reduceCtorEq, Nat.reduceEqDiff, Nat.reduceLT, Nat.reduceLeDiff, Int.reduceLT, Int.reduceLE, Nat.zero_add, Nat.reduceAdd, Bool.false_eq_true, decide_eq_true_eq, decide_eq_false_iff_not, true_implies, false_implies, and_true, true_and, v_b2, pb, v_bs21, ps]
    have op4 := op3.ext x4
    have nn4 := x4.1
    refine out_push (H.n + 1) H4 _ [] false vb (byts k l) op4 (by omega) (by simp) (o4.le (by omega)) (fun b hb hv => ?_) (fun p hp => by simp at hp) _ ?_
    · have h1 := op3.own.1.lt hv
      obtain ⟨o, a, cc, e⟩ := hb
      have := (o4.2 b o a cc e).1
      omega
    intro vo' H5 o5 k5 g5
    subst hT
    have n5 := k5.1
    have hbv : ∀ b, b < H.n + 1 → ¬ inB (Value.slice (some ⟨H1.n, 0, none⟩) 0 0) b := fun b hb ⟨o, a, cc, e⟩ => by
      simp only [Value.slice.injEq, Option.some.injEq, Addr.mk.injEq] at e
      omega
    have st5 : Strm H.n H5 H.n v3 l.tail := (st3.same x4.1 (x4.2 _ (by omega)) (fun b hb => x4.2 b (by omega))).same n5 (k5.2 _ (by omega)) (fun b hb => k5.2 b (by omega))
    simp only [ofArgs, run_seq, run_block, run_ops, run_skip, run_exit, run_ret, thenQ_normal, thenQ_exit, thenQ_ret, blockQ_normal, blockQ_exit, blockQ_ret, retQ_ret, retQ_normal, ops_nil, ops_none, got_some, ops_wT, ops_wTn, ops_wF, ops_wFn, ops_wU, dops_wT, dops_wTn, dops_wF, dops_wFn, dops_wU, run_condT, run_condF, alt2_int, altB_bool, altI_int, altBB_bool, v_min, v_max, v_not, v_neg, optEv_none, optEv_some, isSome'_none, isSome'_some, pExt0, pExt1, pExt2, Bool.false_and, Bool.true_and, Bool.not_true, Bool.not_false, cond_true, cond_false, dops_nil, dops_none, xval_call, v_mov, v_bin, v_len, v_ext, v_idxA, v_ld, v_st, v_app, v_appN, v_cvs, v_bs1, pBs1, v_slc, v_conv, v_fld, v_fldA, v_new, v_box, v_mks, v_copy, v_isnil, v_nilck, v_pick, ev, evs_nil, evs_cons, fr_get_cons, fr_put_nil, fr_put_cons, fr_put_some, fr_put_none, fr_keep_nil, fr_keep_cons, fr_has_nil, fr_has_cons, Option.bind_some, Option.map_some, xbin, ibin, xresult_eq, xress_nil, xress_tmp, resV, ex_some, if_true, if_false, ite_true, ite_false, reduceIte, reduceCtorEq, Nat.reduceEqDiff, Nat.reduceLT, Nat.reduceLeDiff, Int.reduceLT, Int.reduceLE, Nat.zero_add, Nat.reduceAdd, Bool.false_eq_true, decide_eq_true_eq, decide_eq_false_iff_not, true_implies, false_implies, and_true, true_and]
    refine next_ok H.n H.n v3 l.tail 5 (by decide) (by decide) H5 _ st5 ?_
    intro v6 H6 n6 g6 s6
    have y0 := Int.emod_nonneg (l.tail.headD 0) (by decide : (5 : Int) ≠ 0)
    have y1 := Int.emod_lt_of_pos (l.tail.headD 0) (by decide : (0 : Int) < 5)
    generalize l.tail.headD 0 % 5 = N at *
    have hbl := byts_len k l
    have := rest H5 vo' [(false, byts k l, vb)] v3 o5 ⟨fun p hp => by simp [strip] at hp; subst hp; exact byts_b8 k l, fun p hp => by simp [strip] at hp, fun p hp => by simp [strip] at hp; subst hp; right; intro h; have h' : byts k l = [] := h; rw [h'] at hbl; simp at hbl; omega⟩ (by simp) (fun p hp => by simp at hp; subst hp; show (byts k l).length ≤ 5; omega) st5 (by omega) (fun d hd => (k5.2 d (by omega)).trans ((x4.2 d (by omega)).trans (k3 d hd))) N y0 y1 v6 H6 _ n6 g6 s6
    simp only [ofArgs, run_seq, run_block, run_ops, run_skip, run_exit, run_ret, thenQ_normal, thenQ_exit, thenQ_ret, blockQ_normal, blockQ_exit, blockQ_ret, retQ_ret, retQ_normal, ops_nil, ops_none, got_some, ops_wT, ops_wTn, ops_wF, ops_wFn, ops_wU, dops_wT, dops_wTn, dops_wF, dops_wFn, dops_wU, run_condT, run_condF, alt2_int, altB_bool, altI_int, altBB_bool, v_min, v_max, v_not, v_neg, optEv_none, optEv_some, isSome'_none, isSome'_some, pExt0, pExt1, pExt2, Bool.false_and, Bool.true_and, Bool.not_true, Bool.not_false, cond_true, cond_false, dops_nil, dops_none, xval_call, v_mov, v_bin, v_len, v_ext, v_idxA, v_ld, v_st, v_app, v_appN, v_cvs, v_bs1, pBs1, v_slc, v_conv, v_fld, v_fldA, v_new, v_box, v_mks, v_copy, v_isnil, v_nilck, v_pick, ev, evs_nil, evs_cons, fr_get_cons, fr_put_nil, fr_put_cons, fr_put_some, fr_put_none, fr_keep_nil, fr_keep_cons, fr_has_nil, fr_has_cons, Option.bind_some, Option.map_some, xbin, ibin, xresult_eq, xress_nil, xress_tmp, resV, ex_some, if_true, if_false, ite_true, ite_false, reduceIte, reduceCtorEq, Nat.reduceEqDiff, Nat.reduceLT, Nat.reduceLeDiff, Int.reduceLT, Int.reduceLE, Nat.zero_add, Nat.reduceAdd, Bool.false_eq_true, decide_eq_true_eq, decide_eq_false_iff_not, true_implies, false_implies, and_true, true_and] at this ⊢
    exact this
end Go.Proofs.Ytejedmocjdcdgaa.D

set_option linter.unusedSimpArgs false
set_option linter.unusedVariables false
namespace Go.Proofs.Ytejedmocjdcdgaa.D
open Go Go.Det

theorem cnt_l0 (v c2 v8 v9 v11 v12 v13 : Value) (rest : List T3) : ∀ (pre : List T3) (acc : Nat) (H : AH) (i N : Int) (Q : XExit → Fr → AH → Prop), RP H v (pre ++ rest) → acc + szT rest ≤ 2400 → pre.length + rest.length ≤ 100000 → i = (pre.length : Int) → N = ((pre ++ rest).length : Int) →
    (∀ H', HExt H H' → Q (.exit 0) [(2, c2), (7, v), (8, v8), (9, v9), (11, v11), (12, v12), (13, v13), (14, .int .i64 ((acc + szT rest : Nat) : Int)), (41, v), (42, .int .i64 N), (43, .int .i64 N), (44, .bool false)] H') →
    Run Try.prog tab (.loop xbakekeep2_MfmBack_l0) [(2, c2), (7, v), (8, v8), (9, v9), (11, v11), (12, v12), (13, v13), (14, .int .i64 (acc : Int)), (41, v), (42, .int .i64 N), (43, .int .i64 i)] H Q := by
  induction rest with
  | nil =>
    intro pre acc H i N Q hr ha hl hi hN hq
    rw [run_loop]
    generalize hL : XCode.loop xbakekeep2_MfmBack_l0 = L
    have hiN : i = N := by simp at hN; omega
    subst hiN
    have hf : ¬ i < i := by omega
    simp only [xbakekeep2_MfmBack_l0, ofArgs, run_seq, run_block, run_ops, run_skip, run_exit, run_ret, thenQ_normal, thenQ_exit, thenQ_ret, blockQ_normal, blockQ_exit, blockQ_ret, retQ_ret, retQ_normal, ops_nil, ops_none, got_some, ops_wT, ops_wTn, ops_wF, ops_wFn, ops_wU, dops_wT, dops_wTn, dops_wF, dops_wFn, dops_wU, run_condT, run_condF, alt2_int, altB_bool, altI_int, altBB_bool, v_min, v_max, v_not, v_neg, optEv_none, optEv_some, isSome'_none, isSome'_some, pExt0, pExt1, pExt2, Bool.false_and, Bool.true_and, Bool.not_true, Bool.not_false, cond_true, cond_false, dops_nil, dops_none, xval_call, v_mov, v_bin, v_len, v_ext, v_idxA, v_ld, v_st, v_app, v_appN, v_cvs, v_bs1, pBs1, v_slc, v_conv, v_fld, v_fldA, v_new, v_box, v_mks, v_copy, v_isnil, v_nilck, v_pick, ev, evs_nil, evs_cons, fr_get_cons, fr_put_nil, fr_put_cons, fr_put_some, fr_put_none, fr_keep_nil, fr_keep_cons, fr_has_nil, fr_has_cons, Option.bind_some, Option.map_some, xbin, ibin, xresult_eq, xress_nil, xress_tmp, resV, ex_some, if_true, if_false, ite_true, ite_false, reduceIte, reduceCtorEq, Nat.reduceEqDiff, Nat.reduceLT, Nat.reduceLeDiff, Int.reduceLT, Int.reduceLE, Nat.zero_add, Nat.reduceAdd, Bool.false_eq_true, decide_eq_true_eq, decide_eq_false_iff_not, true_implies, false_implies, and_true, true_and, hf, decide_false]
    exact hq H (HExt.refl H)
  | cons p rest ih =>
    intro pre acc H i N Q hr ha hl hi hN hq
    rw [run_loop]
    generalize hL : XCode.loop xbakekeep2_MfmBack_l0 = L
    simp only [List.length_cons] at hl
    rw [szT_cons] at ha hq
    obtain ⟨m, bs, w⟩ := p
    have hlt : i < N := by simp at hN; omega
    have e1 := rp_idx hr .i64 i hi
    have e2 := rp_ld hr
    have hb := hr.2 (m, bs, w) (by simp)
    obtain ⟨o1, o2⟩ := slice_one hb
    have st := b2_st H m w o1
    have hx := b2_ext H m w
    have g2 := b2_get H m w
    have e4 := bx2_0 g2
    have e5 := bx2_1 g2
    have e6 := byts_len' (Sl.ext hx hb : Byts _ w bs)
    have w3 := wrI (i + 1) (by omega) (by omega)
    have w1 : IntKind.i64.wrap ((acc : Int) + (bs.length : Int)) = ((acc + bs.length : Nat) : Int) := by rw [wrI _ (by simp only at ha; omega) (by simp only at ha; omega)]; omega
    have hr' : RP (b2 H m w) v ((pre ++ [(m, bs, w)]) ++ rest) := by rw [← List.append_cons]; exact hr.ext hx
    cases m
    · simp only [Bool.false_eq_true, if_false, Nat.add_zero] at ha hq
      simp only [xbakekeep2_MfmBack_l0, ofArgs, run_seq, run_block, run_ops, run_skip, run_exit, run_ret, thenQ_normal, thenQ_exit, thenQ_ret, blockQ_normal, blockQ_exit, blockQ_ret, retQ_ret, retQ_normal, ops_nil, ops_none, got_some, ops_wT, ops_wTn, ops_wF, ops_wFn, ops_wU, dops_wT, dops_wTn, dops_wF, dops_wFn, dops_wU, run_condT, run_condF, alt2_int, altB_bool, altI_int, altBB_bool, v_min, v_max, v_not, v_neg, optEv_none, optEv_some, isSome'_none, isSome'_some, pExt0, pExt1, pExt2, Bool.false_and, Bool.true_and, Bool.not_true, Bool.not_false, cond_true, cond_false, dops_nil, dops_none, xval_call, v_mov, v_bin, v_len, v_ext, v_idxA, v_ld, v_st, v_app, v_appN, v_cvs, v_bs1, pBs1, v_slc, v_conv, v_fld, v_fldA, v_new, v_box, v_mks, v_copy, v_isnil, v_nilck, v_pick, ev, evs_nil, evs_cons, fr_get_cons, fr_put_nil, fr_put_cons, fr_put_some, fr_put_none, fr_keep_nil, fr_keep_cons, fr_has_nil, fr_has_cons, Option.bind_some, Option.map_some, xbin, ibin, xresult_eq, xress_nil, xress_tmp, resV, ex_some, if_true, if_false, ite_true, ite_false, reduceIte, reduceCtorEq, Nat.reduceEqDiff, Nat.reduceLT, Nat.reduceLeDiff, Int.reduceLT, Int.reduceLE, Nat.zero_add, Nat.reduceAdd, Bool.false_eq_true, decide_eq_true_eq, decide_eq_false_iff_not, true_implies, false_implies, and_true, true_and, hlt, decide_true, decide_false, e1, e2, st, fldA0, fldA1, e4, e5, e6, w1, w3]
      subst hL
      refine ih (pre ++ [(false, bs, w)]) (acc + bs.length) _ (i + 1) N Q hr' (by omega) (by simp; omega) (by simp; omega) (by simpa using hN) ?_
      intro H2 x2
      have := hq H2 (hx.trans x2)
      rwa [← Nat.add_assoc] at this
    · simp only [if_true] at ha hq
      have w2 : IntKind.i64.wrap (((acc + bs.length : Nat) : Int) + 1) = ((acc + (bs.length + 1) : Nat) : Int) := by rw [wrI _ (by omega) (by omega)]; omega
      simp only [xbakekeep2_MfmBack_l0, ofArgs, run_seq, run_block, run_ops, run_skip, run_exit, run_ret, thenQ_normal, thenQ_exit, thenQ_ret, blockQ_normal, blockQ_exit, blockQ_ret, retQ_ret, retQ_normal, ops_nil, ops_none, got_some, ops_wT, ops_wTn, ops_wF, ops_wFn, ops_wU, dops_wT, dops_wTn, dops_wF, dops_wFn, dops_wU, run_condT, run_condF, alt2_int, altB_bool, altI_int, altBB_bool, v_min, v_max, v_not, v_neg, optEv_none, optEv_some, isSome'_none, isSome'_some, pExt0, pExt1, pExt2, Bool.false_and, Bool.true_and, Bool.not_true, Bool.not_false, cond_true, cond_false, dops_nil, dops_none, xval_call, v_mov, v_bin, v_len, v_ext, v_idxA, v_ld, v_st, v_app, v_appN, v_cvs, v_bs1, pBs1, v_slc, v_conv, v_fld, v_fldA, v_new, v_box, v_mks, v_copy, v_isnil, v_nilck, v_pick, ev, evs_nil, evs_cons, fr_get_cons, fr_put_nil, fr_put_cons, fr_put_some, fr_put_none, fr_keep_nil, fr_keep_cons, fr_has_nil, fr_has_cons, Option.bind_some, Option.map_some, xbin, ibin, xresult_eq, xress_nil, xress_tmp, resV, ex_some, if_true, if_false, ite_true, ite_false, reduceIte, reduceCtorEq, Nat.reduceEqDiff, Nat.reduceLT, Nat.reduceLeDiff, Int.reduceLT, Int.reduceLE, Nat.zero_add, Nat.reduceAdd, Bool.false_eq_true, decide_eq_true_eq, decide_eq_false_iff_not, true_implies, false_implies, and_true, true_and, hlt, decide_true, decide_false, e1, e2, st, fldA0, fldA1, e4, e5, e6, w1, w2, w3]
      subst hL
      refine ih (pre ++ [(true, bs, w)]) (acc + (bs.length + 1)) _ (i + 1) N Q hr' (by omega) (by simp; omega) (by simp; omega) (by simpa using hN) ?_
      intro H2 x2
      have := hq H2 (hx.trans x2)
      rwa [← Nat.add_assoc] at this
theorem szT_bd (l : List T3) (h : ∀ p ∈ l, p.2.1.length ≤ 5) : szT l ≤ 6 * l.length := by
  induction l with
  | nil => simp [szT, szP, itemsL]
  | cons p l ih =>
    rw [szT_cons]
    have h1 := h p (by simp)
    have h2 := ih (fun p hp => h p (by simp [hp]))
    simp only [List.length_cons]
    split <;> omega

set_option maxHeartbeats 8000000 in
theorem MfmBack_ok (l by_ : List Int) (cell0 : Int) (s1 s2 : Value) (H : AH) (hs1 : Ints H s1 l) (hs2 : Ints H s2 by_) (hby : by_.length ≤ 17592186044416) : Got (xc Try.prog tab 5 [s1, s2, .int .i64 cell0] H) fun v H' => v = .bool true := by
  refine got_call (res := [.tmp 6]) rfl ?_
  generalize hT : ((.seq (.ops [⟨some 19, .mov (.tmp 2), none⟩, ⟨some 20, .call 14 [.tmp 19, .const (.int .i64 999)], none⟩, ⟨some 21, .bin .add (.const (.int .i64 2)) (.tmp 20), none⟩, ⟨some 2, .mov (.tmp 21), none⟩] [1, 2, 7]) (.seq (.ops [⟨some 23, .mov (.tmp 7), none⟩, ⟨some 24, .mov (.tmp 2), none⟩, ⟨some 25, .call 29 [.tmp 23, .tmp 24], none⟩, ⟨some 22, .mov (.tmp 25), none⟩, ⟨some 26, .ext (.tmp 22) 0, none⟩, ⟨some 27, .ext (.tmp 22) 1, none⟩, ⟨some 8, .mov (.tmp 26), none⟩, ⟨some 9, .mov (.tmp 27), none⟩] [1, 2, 7, 8, 9]) (.seq (.ops [⟨some 29, .mov (.tmp 8), none⟩, ⟨some 30, .mov (.tmp 1), none⟩, ⟨some 31, .mov (.tmp 2), none⟩, ⟨some 32, .call 16 [.tmp 29, .tmp 30, .tmp 31], none⟩, ⟨some 28, .mov (.tmp 32), none⟩, ⟨some 33, .ext (.tmp 28) 0, none⟩, ⟨some 34, .ext (.tmp 28) 1, none⟩, ⟨some 10, .mov (.tmp 33), none⟩, ⟨some 11, .mov (.tmp 34), none⟩] [2, 7, 8, 9, 10, 11]) (.seq (.ops [⟨some 36, .mov (.tmp 10), none⟩, ⟨some 37, .mov (.tmp 2), none⟩, ⟨some 38, .call 30 [.tmp 36, .tmp 37], none⟩, ⟨some 35, .mov (.tmp 38), none⟩, ⟨some 39, .ext (.tmp 35) 0, none⟩, ⟨some 40, .ext (.tmp 35) 1, none⟩, ⟨some 12, .mov (.tmp 39), none⟩, ⟨some 13, .mov (.tmp 40), none⟩] [2, 7, 8, 9, 11, 12, 13]) (.seq (.ops [⟨some 14, .mov (.const (.int .i64 0)), none⟩] [2, 7, 8, 9, 11, 12, 13, 14]) (.seq (.seq (.ops [⟨some 41, .mov (.tmp 7), none⟩, ⟨some 42, .len (.tmp 41), none⟩, ⟨some 43, .mov (.const (.int .i64 0)), none⟩] [2, 7, 8, 9, 11, 12, 13, 14, 41, 42, 43]) (.block 0 (.loop xbakekeep2_MfmBack_l0))) (.seq (.ops [⟨some 57, .mov (.tmp 9), none⟩, ⟨some 58, .bin .eql (.tmp 57) (.const (.int .i64 0)), none⟩, ⟨some 59, .mov (.tmp 58), none⟩, ⟨some 60, .mov (.tmp 11), some (59, true)⟩, ⟨some 61, .pick (.tmp 59) (.tmp 60) (.const (.bool false)), none⟩, ⟨some 62, .mov (.tmp 61), none⟩, ⟨some 63, .mov (.tmp 13), some (62, true)⟩, ⟨some 64, .bin .eql (.tmp 63) (.const (.int .i64 0)), some (62, true)⟩, ⟨some 65, .pick (.tmp 62) (.tmp 64) (.const (.bool false)), none⟩, ⟨some 66, .mov (.tmp 65), none⟩, ⟨some 67, .mov (.tmp 8), some (66, true)⟩, ⟨some 68, .call 19 [.tmp 67], some (66, true)⟩, ⟨some 69, .mov (.tmp 14), some (66, true)⟩, ⟨some 70, .bin .mul (.const (.int .i64 16)) (.tmp 69), some (66, true)⟩, ⟨some 71, .bin .add (.tmp 70) (.const (.int .i64 2)), some (66, true)⟩, ⟨some 72, .mov (.tmp 2), some (66, true)⟩, ⟨some 73, .bin .mul (.tmp 71) (.tmp 72), some (66, true)⟩, ⟨some 74, .bin .eql (.tmp 68) (.tmp 73), some (66, true)⟩, ⟨some 75, .pick (.tmp 66) (.tmp 74) (.const (.bool false)), none⟩, ⟨some 76, .mov (.tmp 75), none⟩, ⟨some 77, .mov (.tmp 7), some (76, true)⟩, ⟨some 78, .mov (.tmp 12), some (76, true)⟩, ⟨some 79, .call 31 [.tmp 77, .tmp 78, .func 32], some (76, true)⟩, ⟨some 80, .pick (.tmp 76) (.tmp 79) (.const (.bool false)), none⟩, ⟨some 6, .mov (.tmp 80), none⟩] [6]) .ret))))))) : XCode) = T
  simp only [ofArgs, run_seq, run_block, run_ops, run_skip, run_exit, run_ret, thenQ_normal, thenQ_exit, thenQ_ret, blockQ_normal, blockQ_exit, blockQ_ret, retQ_ret, retQ_normal, ops_nil, ops_none, got_some, ops_wT, ops_wTn, ops_wF, ops_wFn, ops_wU, dops_wT, dops_wTn, dops_wF, dops_wFn, dops_wU, run_condT, run_condF, alt2_int, altB_bool, altI_int, altBB_bool, v_min, v_max, v_not, v_neg, optEv_none, optEv_some, isSome'_none, isSome'_some, pExt0, pExt1, pExt2, Bool.false_and, Bool.true_and, Bool.not_true, Bool.not_false, cond_true, cond_false, dops_nil, dops_none, xval_call, v_mov, v_bin, v_len, v_ext, v_idxA, v_ld, v_st, v_app, v_appN, v_cvs, v_bs1, pBs1, v_slc, v_conv, v_fld, v_fldA, v_new, v_box, v_mks, v_copy, v_isnil, v_nilck, v_pick, ev, evs_nil, evs_cons, fr_get_cons, fr_put_nil, fr_put_cons, fr_put_some, fr_put_none, fr_keep_nil, fr_keep_cons, fr_has_nil, fr_has_cons, Option.bind_some, Option.map_some, xbin, ibin, xresult_eq, xress_nil, xress_tmp, resV, ex_some, if_true, if_false, ite_true, ite_false, reduceIte, reduceCtorEq, Nat.reduceEqDiff, Nat.reduceLT, Nat.reduceLeDiff, Int.reduceLT, Int.reduceLE, Nat.zero_add, Nat.reduceAdd, Bool.false_eq_true, decide_eq_true_eq, decide_eq_false_iff_not, true_implies, false_implies, and_true, true_and]
  refine parts_ok l s1 H _ hs1 ?_
  intro va ps H1 op can hpl hpb x1
  have hsz := szT_bd ps hpb
  have hc0 := Int.emod_nonneg cell0 (by omega : (999 : Int) ≠ 0)
  have hc1 := Int.emod_lt_of_pos cell0 (by omega : (0 : Int) < 999)
  have q1 := below_xc cell0 999 H1 (by omega) (by omega)
  have w1 := wrI (2 + cell0 % 999) (by omega) (by omega)
  subst hT
  generalize hT : ((.seq (.ops [⟨some 29, .mov (.tmp 8), none⟩, ⟨some 30, .mov (.tmp 1), none⟩, ⟨some 31, .mov (.tmp 2), none⟩, ⟨some 32, .call 16 [.tmp 29, .tmp 30, .tmp 31], none⟩, ⟨some 28, .mov (.tmp 32), none⟩, ⟨some 33, .ext (.tmp 28) 0, none⟩, ⟨some 34, .ext (.tmp 28) 1, none⟩, ⟨some 10, .mov (.tmp 33), none⟩, ⟨some 11, .mov (.tmp 34), none⟩] [2, 7, 8, 9, 10, 11]) (.seq (.ops [⟨some 36, .mov (.tmp 10), none⟩, ⟨some 37, .mov (.tmp 2), none⟩, ⟨some 38, .call 30 [.tmp 36, .tmp 37], none⟩, ⟨some 35, .mov (.tmp 38), none⟩, ⟨some 39, .ext (.tmp 35) 0, none⟩, ⟨some 40, .ext (.tmp 35) 1, none⟩, ⟨some 12, .mov (.tmp 39), none⟩, ⟨some 13, .mov (.tmp 40), none⟩] [2, 7, 8, 9, 11, 12, 13]) (.seq (.ops [⟨some 14, .mov (.const (.int .i64 0)), none⟩] [2, 7, 8, 9, 11, 12, 13, 14]) (.seq (.seq (.ops [⟨some 41, .mov (.tmp 7), none⟩, ⟨some 42, .len (.tmp 41), none⟩, ⟨some 43, .mov (.const (.int .i64 0)), none⟩] [2, 7, 8, 9, 11, 12, 13, 14, 41, 42, 43]) (.block 0 (.loop xbakekeep2_MfmBack_l0))) (.seq (.ops [⟨some 57, .mov (.tmp 9), none⟩, ⟨some 58, .bin .eql (.tmp 57) (.const (.int .i64 0)), none⟩, ⟨some 59, .mov (.tmp 58), none⟩, ⟨some 60, .mov (.tmp 11), some (59, true)⟩, ⟨some 61, .pick (.tmp 59) (.tmp 60) (.const (.bool false)), none⟩, ⟨some 62, .mov (.tmp 61), none⟩, ⟨some 63, .mov (.tmp 13), some (62, true)⟩, ⟨some 64, .bin .eql (.tmp 63) (.const (.int .i64 0)), some (62, true)⟩, ⟨some 65, .pick (.tmp 62) (.tmp 64) (.const (.bool false)), none⟩, ⟨some 66, .mov (.tmp 65), none⟩, ⟨some 67, .mov (.tmp 8), some (66, true)⟩, ⟨some 68, .call 19 [.tmp 67], some (66, true)⟩, ⟨some 69, .mov (.tmp 14), some (66, true)⟩, ⟨some 70, .bin .mul (.const (.int .i64 16)) (.tmp 69), some (66, true)⟩, ⟨some 71, .bin .add (.tmp 70) (.const (.int .i64 2)), some (66, true)⟩, ⟨some 72, .mov (.tmp 2), some (66, true)⟩, ⟨some 73, .bin .mul (.tmp 71) (.tmp 72), some (66, true)⟩, ⟨some 74, .bin .eql (.tmp 68) (.tmp 73), some (66, true)⟩, ⟨some 75, .pick (.tmp 66) (.tmp 74) (.const (.bool false)), none⟩, ⟨some 76, .mov (.tmp 75), none⟩, ⟨some 77, .mov (.tmp 7), some (76, true)⟩, ⟨some 78, .mov (.tmp 12), some (76, true)⟩, ⟨some 79, .call 31 [.tmp 77, .tmp 78, .func 32], some (76, true)⟩, ⟨some 80, .pick (.tmp 76) (.tmp 79) (.const (.bool false)), none⟩, ⟨some 6, .mov (.tmp 80), none⟩] [6]) .ret))))) : XCode) = T
  simp only [ofArgs, run_seq, run_block, run_ops, run_skip, run_exit, run_ret, thenQ_normal, thenQ_exit, thenQ_ret, blockQ_normal, blockQ_exit, blockQ_ret, retQ_ret, retQ_normal, ops_nil, ops_none, got_some, ops_wT, ops_wTn, ops_wF, ops_wFn, ops_wU, dops_wT, dops_wTn, dops_wF, dops_wFn, dops_wU, run_condT, run_condF, alt2_int, altB_bool, altI_int, altBB_bool, v_min, v_max, v_not, v_neg, optEv_none, optEv_some, isSome'_none, isSome'_some, pExt0, pExt1, pExt2, Bool.false_and, Bool.true_and, Bool.not_true, Bool.not_false, cond_true, cond_false, dops_nil, dops_none, xval_call, v_mov, v_bin, v_len, v_ext, v_idxA, v_ld, v_st, v_app, v_appN, v_cvs, v_bs1, pBs1, v_slc, v_conv, v_fld, v_fldA, v_new, v_box, v_mks, v_copy, v_isnil, v_nilck, v_pick, ev, evs_nil, evs_cons, fr_get_cons, fr_put_nil, fr_put_cons, fr_put_some, fr_put_none, fr_keep_nil, fr_keep_cons, fr_has_nil, fr_has_cons, Option.bind_some, Option.map_some, xbin, ibin, xresult_eq, xress_nil, xress_tmp, resV, ex_some, if_true, if_false, ite_true, ite_false, reduceIte, reduceCtorEq, Nat.reduceEqDiff, Nat.reduceLT, Nat.reduceLeDiff, Int.reduceLT, Int.reduceLE, Nat.zero_add, Nat.reduceAdd, Bool.false_eq_true, decide_eq_true_eq, decide_eq_false_iff_not, true_implies, false_implies, and_true, true_and, q1, w1]
  have h2 : 2 ≤ 2 + cell0 % 999 := by omega
  have h3 : 2 + cell0 % 999 ≤ 1000 := by omega
  generalize 2 + cell0 % 999 = cell at h2 h3
  have h8 : ∀ p ∈ ps, B8 p.2.1 := fun p hp => can.1 (strip p) (List.mem_map_of_mem hp)
  have iok := items_ok _ can.1
  have gb := fullI_gb _ iok
  have gsum := gaps_sum _ iok
  have glen := (gaps_len (fullI (itemsL (ps.map strip)))).1
  rw [fullI_len] at glen
  have hil : (itemsL (ps.map strip)).length ≤ 60 := by
    have : szT ps ≤ 60 := by omega
    exact this
  have hil2 : (itemsL (ps.map strip)).length = szT ps := rfl
  refine writeP_ok ps va cell H1 _ op.rp h8 (by omega) (by omega) h2 h3 ?_
  intro vt H2 ot x2
  subst hT
  generalize hT : ((.seq (.ops [⟨some 36, .mov (.tmp 10), none⟩, ⟨some 37, .mov (.tmp 2), none⟩, ⟨some 38, .call 30 [.tmp 36, .tmp 37], none⟩, ⟨some 35, .mov (.tmp 38), none⟩, ⟨some 39, .ext (.tmp 35) 0, none⟩, ⟨some 40, .ext (.tmp 35) 1, none⟩, ⟨some 12, .mov (.tmp 39), none⟩, ⟨some 13, .mov (.tmp 40), none⟩] [2, 7, 8, 9, 11, 12, 13]) (.seq (.ops [⟨some 14, .mov (.const (.int .i64 0)), none⟩] [2, 7, 8, 9, 11, 12, 13, 14]) (.seq (.seq (.ops [⟨some 41, .mov (.tmp 7), none⟩, ⟨some 42, .len (.tmp 41), none⟩, ⟨some 43, .mov (.const (.int .i64 0)), none⟩] [2, 7, 8, 9, 11, 12, 13, 14, 41, 42, 43]) (.block 0 (.loop xbakekeep2_MfmBack_l0))) (.seq (.ops [⟨some 57, .mov (.tmp 9), none⟩, ⟨some 58, .bin .eql (.tmp 57) (.const (.int .i64 0)), none⟩, ⟨some 59, .mov (.tmp 58), none⟩, ⟨some 60, .mov (.tmp 11), some (59, true)⟩, ⟨some 61, .pick (.tmp 59) (.tmp 60) (.const (.bool false)), none⟩, ⟨some 62, .mov (.tmp 61), none⟩, ⟨some 63, .mov (.tmp 13), some (62, true)⟩, ⟨some 64, .bin .eql (.tmp 63) (.const (.int .i64 0)), some (62, true)⟩, ⟨some 65, .pick (.tmp 62) (.tmp 64) (.const (.bool false)), none⟩, ⟨some 66, .mov (.tmp 65), none⟩, ⟨some 67, .mov (.tmp 8), some (66, true)⟩, ⟨some 68, .call 19 [.tmp 67], some (66, true)⟩, ⟨some 69, .mov (.tmp 14), some (66, true)⟩, ⟨some 70, .bin .mul (.const (.int .i64 16)) (.tmp 69), some (66, true)⟩, ⟨some 71, .bin .add (.tmp 70) (.const (.int .i64 2)), some (66, true)⟩, ⟨some 72, .mov (.tmp 2), some (66, true)⟩, ⟨some 73, .bin .mul (.tmp 71) (.tmp 72), some (66, true)⟩, ⟨some 74, .bin .eql (.tmp 68) (.tmp 73), some (66, true)⟩, ⟨some 75, .pick (.tmp 66) (.tmp 74) (.const (.bool false)), none⟩, ⟨some 76, .mov (.tmp 75), none⟩, ⟨some 77, .mov (.tmp 7), some (76, true)⟩, ⟨some 78, .mov (.tmp 12), some (76, true)⟩, ⟨some 79, .call 31 [.tmp 77, .tmp 78, .func 32], some (76, true)⟩, ⟨some 80, .pick (.tmp 76) (.tmp 79) (.const (.bool false)), none⟩, ⟨some 6, .mov (.tmp 80), none⟩] [6]) .ret)))) : XCode) = T
  simp only [ofArgs, run_seq, run_block, run_ops, run_skip, run_exit, run_ret, thenQ_normal, thenQ_exit, thenQ_ret, blockQ_normal, blockQ_exit, blockQ_ret, retQ_ret, retQ_normal, ops_nil, ops_none, got_some, ops_wT, ops_wTn, ops_wF, ops_wFn, ops_wU, dops_wT, dops_wTn, dops_wF, dops_wFn, dops_wU, run_condT, run_condF, alt2_int, altB_bool, altI_int, altBB_bool, v_min, v_max, v_not, v_neg, optEv_none, optEv_some, isSome'_none, isSome'_some, pExt0, pExt1, pExt2, Bool.false_and, Bool.true_and, Bool.not_true, Bool.not_false, cond_true, cond_false, dops_nil, dops_none, xval_call, v_mov, v_bin, v_len, v_ext, v_idxA, v_ld, v_st, v_app, v_appN, v_cvs, v_bs1, pBs1, v_slc, v_conv, v_fld, v_fldA, v_new, v_box, v_mks, v_copy, v_isnil, v_nilck, v_pick, ev, evs_nil, evs_cons, fr_get_cons, fr_put_nil, fr_put_cons, fr_put_some, fr_put_none, fr_keep_nil, fr_keep_cons, fr_has_nil, fr_has_cons, Option.bind_some, Option.map_some, xbin, ibin, xresult_eq, xress_nil, xress_tmp, resV, ex_some, if_true, if_false, ite_true, ite_false, reduceIte, reduceCtorEq, Nat.reduceEqDiff, Nat.reduceLT, Nat.reduceLeDiff, Int.reduceLT, Int.reduceLE, Nat.zero_add, Nat.reduceAdd, Bool.false_eq_true, decide_eq_true_eq, decide_eq_false_iff_not, true_implies, false_implies, and_true, true_and]
  refine shaken_ok (gaps (fullI (itemsL (ps.map strip)))).1 by_ cell vt s2 H2 _ ot.ints (Sl.ext (x1.trans x2) hs2) hby (by omega) h2 h3 (fun a ha => by have := gb.1 a ha; omega) ?_
  intro vu H3 w ou hlen hok hcel x3
  subst hT
  generalize hT : ((.seq (.ops [⟨some 14, .mov (.const (.int .i64 0)), none⟩] [2, 7, 8, 9, 11, 12, 13, 14]) (.seq (.seq (.ops [⟨some 41, .mov (.tmp 7), none⟩, ⟨some 42, .len (.tmp 41), none⟩, ⟨some 43, .mov (.const (.int .i64 0)), none⟩] [2, 7, 8, 9, 11, 12, 13, 14, 41, 42, 43]) (.block 0 (.loop xbakekeep2_MfmBack_l0))) (.seq (.ops [⟨some 57, .mov (.tmp 9), none⟩, ⟨some 58, .bin .eql (.tmp 57) (.const (.int .i64 0)), none⟩, ⟨some 59, .mov (.tmp 58), none⟩, ⟨some 60, .mov (.tmp 11), some (59, true)⟩, ⟨some 61, .pick (.tmp 59) (.tmp 60) (.const (.bool false)), none⟩, ⟨some 62, .mov (.tmp 61), none⟩, ⟨some 63, .mov (.tmp 13), some (62, true)⟩, ⟨some 64, .bin .eql (.tmp 63) (.const (.int .i64 0)), some (62, true)⟩, ⟨some 65, .pick (.tmp 62) (.tmp 64) (.const (.bool false)), none⟩, ⟨some 66, .mov (.tmp 65), none⟩, ⟨some 67, .mov (.tmp 8), some (66, true)⟩, ⟨some 68, .call 19 [.tmp 67], some (66, true)⟩, ⟨some 69, .mov (.tmp 14), some (66, true)⟩, ⟨some 70, .bin .mul (.const (.int .i64 16)) (.tmp 69), some (66, true)⟩, ⟨some 71, .bin .add (.tmp 70) (.const (.int .i64 2)), some (66, true)⟩, ⟨some 72, .mov (.tmp 2), some (66, true)⟩, ⟨some 73, .bin .mul (.tmp 71) (.tmp 72), some (66, true)⟩, ⟨some 74, .bin .eql (.tmp 68) (.tmp 73), some (66, true)⟩, ⟨some 75, .pick (.tmp 66) (.tmp 74) (.const (.bool false)), none⟩, ⟨some 76, .mov (.tmp 75), none⟩, ⟨some 77, .mov (.tmp 7), some (76, true)⟩, ⟨some 78, .mov (.tmp 12), some (76, true)⟩, ⟨some 79, .call 31 [.tmp 77, .tmp 78, .func 32], some (76, true)⟩, ⟨some 80, .pick (.tmp 76) (.tmp 79) (.const (.bool false)), none⟩, ⟨some 6, .mov (.tmp 80), none⟩] [6]) .ret))) : XCode) = T
  simp only [ofArgs, run_seq, run_block, run_ops, run_skip, run_exit, run_ret, thenQ_normal, thenQ_exit, thenQ_ret, blockQ_normal, blockQ_exit, blockQ_ret, retQ_ret, retQ_normal, ops_nil, ops_none, got_some, ops_wT, ops_wTn, ops_wF, ops_wFn, ops_wU, dops_wT, dops_wTn, dops_wF, dops_wFn, dops_wU, run_condT, run_condF, alt2_int, altB_bool, altI_int, altBB_bool, v_min, v_max, v_not, v_neg, optEv_none, optEv_some, isSome'_none, isSome'_some, pExt0, pExt1, pExt2, Bool.false_and, Bool.true_and, Bool.not_true, Bool.not_false, cond_true, cond_false, dops_nil, dops_none, xval_call, v_mov, v_bin, v_len, v_ext, v_idxA, v_ld, v_st, v_app, v_appN, v_cvs, v_bs1, pBs1, v_slc, v_conv, v_fld, v_fldA, v_new, v_box, v_mks, v_copy, v_isnil, v_nilck, v_pick, ev, evs_nil, evs_cons, fr_get_cons, fr_put_nil, fr_put_cons, fr_put_some, fr_put_none, fr_keep_nil, fr_keep_cons, fr_has_nil, fr_has_cons, Option.bind_some, Option.map_some, xbin, ibin, xresult_eq, xress_nil, xress_tmp, resV, ex_some, if_true, if_false, ite_true, ite_false, reduceIte, reduceCtorEq, Nat.reduceEqDiff, Nat.reduceLT, Nat.reduceLeDiff, Int.reduceLT, Int.reduceLE, Nat.zero_add, Nat.reduceAdd, Bool.false_eq_true, decide_eq_true_eq, decide_eq_false_iff_not, true_implies, false_implies, and_true, true_and]
  refine readPs_ok (ps.map strip) w can cell vu H3 _ ou.ints hok hcel (by show szT ps ≤ 1000; omega) (by simp; omega) h2 h3 ?_
  intro vb l2 H4 o4 hm4 x4
  have x24 := x2.trans (x3.trans x4)
  have rp4 : RP H4 va ps := op.rp.ext x24
  have e0 := pLen_ok rp4.1
  have nn0 : ((0 : Nat) : Int) = 0 := rfl
  subst hT
  generalize hT : ((.seq (.ops [⟨some 57, .mov (.tmp 9), none⟩, ⟨some 58, .bin .eql (.tmp 57) (.const (.int .i64 0)), none⟩, ⟨some 59, .mov (.tmp 58), none⟩, ⟨some 60, .mov (.tmp 11), some (59, true)⟩, ⟨some 61, .pick (.tmp 59) (.tmp 60) (.const (.bool false)), none⟩, ⟨some 62, .mov (.tmp 61), none⟩, ⟨some 63, .mov (.tmp 13), some (62, true)⟩, ⟨some 64, .bin .eql (.tmp 63) (.const (.int .i64 0)), some (62, true)⟩, ⟨some 65, .pick (.tmp 62) (.tmp 64) (.const (.bool false)), none⟩, ⟨some 66, .mov (.tmp 65), none⟩, ⟨some 67, .mov (.tmp 8), some (66, true)⟩, ⟨some 68, .call 19 [.tmp 67], some (66, true)⟩, ⟨some 69, .mov (.tmp 14), some (66, true)⟩, ⟨some 70, .bin .mul (.const (.int .i64 16)) (.tmp 69), some (66, true)⟩, ⟨some 71, .bin .add (.tmp 70) (.const (.int .i64 2)), some (66, true)⟩, ⟨some 72, .mov (.tmp 2), some (66, true)⟩, ⟨some 73, .bin .mul (.tmp 71) (.tmp 72), some (66, true)⟩, ⟨some 74, .bin .eql (.tmp 68) (.tmp 73), some (66, true)⟩, ⟨some 75, .pick (.tmp 66) (.tmp 74) (.const (.bool false)), none⟩, ⟨some 76, .mov (.tmp 75), none⟩, ⟨some 77, .mov (.tmp 7), some (76, true)⟩, ⟨some 78, .mov (.tmp 12), some (76, true)⟩, ⟨some 79, .call 31 [.tmp 77, .tmp 78, .func 32], some (76, true)⟩, ⟨some 80, .pick (.tmp 76) (.tmp 79) (.const (.bool false)), none⟩, ⟨some 6, .mov (.tmp 80), none⟩] [6]) .ret) : XCode) = T
  simp only [ofArgs, run_seq, run_block, run_ops, run_skip, run_exit, run_ret, thenQ_normal, thenQ_exit, thenQ_ret, blockQ_normal, blockQ_exit, blockQ_ret, retQ_ret, retQ_normal, ops_nil, ops_none, got_some, ops_wT, ops_wTn, ops_wF, ops_wFn, ops_wU, dops_wT, dops_wTn, dops_wF, dops_wFn, dops_wU, run_condT, run_condF, alt2_int, altB_bool, altI_int, altBB_bool, v_min, v_max, v_not, v_neg, optEv_none, optEv_some, isSome'_none, isSome'_some, pExt0, pExt1, pExt2, Bool.false_and, Bool.true_and, Bool.not_true, Bool.not_false, cond_true, cond_false, dops_nil, dops_none, xval_call, v_mov, v_bin, v_len, v_ext, v_idxA, v_ld, v_st, v_app, v_appN, v_cvs, v_bs1, pBs1, v_slc, v_conv, v_fld, v_fldA, v_new, v_box, v_mks, v_copy, v_isnil, v_nilck, v_pick, ev, evs_nil, evs_cons, fr_get_cons, fr_put_nil, fr_put_cons, fr_put_some, fr_put_none, fr_keep_nil, fr_keep_cons, fr_has_nil, fr_has_cons, Option.bind_some, Option.map_some, xbin, ibin, xresult_eq, xress_nil, xress_tmp, resV, ex_some, if_true, if_false, ite_true, ite_false, reduceIte, reduceCtorEq, Nat.reduceEqDiff, Nat.reduceLT, Nat.reduceLeDiff, Int.reduceLT, Int.reduceLE, Nat.zero_add, Nat.reduceAdd, Bool.false_eq_true, decide_eq_true_eq, decide_eq_false_iff_not, true_implies, false_implies, and_true, true_and, e0]
  refine cnt_l0 va _ _ _ _ _ _ ps [] 0 H4 0 _ _ (by simpa using rp4) (by omega) (by simp; omega) (by simp) (by simp) ?_
  intro H5 x5
  subst hT
  have rp5 := rp4.ext x5
  have T5 : Ints H5 vt (pul cell (gaps (fullI (itemsL (ps.map strip)))).1) := Sl.ext (x3.trans (x4.trans x5)) ot.ints
  have okt := pul_ok cell h2 h3 (gaps (fullI (itemsL (ps.map strip)))).1 (fun x hx => by have := gb.1 x hx; omega)
  have r2 := total_xc _ vt H5 T5 (by simp [pul]; omega) okt
  rw [pul_sum, gsum, hil2] at r2
  have z1 : (((0 + szT ps : Nat)) : Int) = (szT ps : Int) := by rw [Nat.zero_add]
  have w2 := wrI (16 * (szT ps : Int)) (by omega) (by omega)
  have w3 := wrI (16 * (szT ps : Int) + 2) (by omega) (by omega)
  have hm1 : 0 * cell ≤ (16 * (szT ps : Int) + 2) * cell := Int.mul_le_mul_of_nonneg_right (by omega) (by omega)
  have hm2 : (16 * (szT ps : Int) + 2) * cell ≤ 1000 * cell := Int.mul_le_mul_of_nonneg_right (by omega) (by omega)
  have w4 := wrI ((16 * (szT ps : Int) + 2) * cell) (by omega) (by omega)
  simp only [ofArgs, run_seq, run_block, run_ops, run_skip, run_exit, run_ret, thenQ_normal, thenQ_exit, thenQ_ret, blockQ_normal, blockQ_exit, blockQ_ret, retQ_ret, retQ_normal, ops_nil, ops_none, got_some, ops_wT, ops_wTn, ops_wF, ops_wFn, ops_wU, dops_wT, dops_wTn, dops_wF, dops_wFn, dops_wU, run_condT, run_condF, alt2_int, altB_bool, altI_int, altBB_bool, v_min, v_max, v_not, v_neg, optEv_none, optEv_some, isSome'_none, isSome'_some, pExt0, pExt1, pExt2, Bool.false_and, Bool.true_and, Bool.not_true, Bool.not_false, cond_true, cond_false, dops_nil, dops_none, xval_call, v_mov, v_bin, v_len, v_ext, v_idxA, v_ld, v_st, v_app, v_appN, v_cvs, v_bs1, pBs1, v_slc, v_conv, v_fld, v_fldA, v_new, v_box, v_mks, v_copy, v_isnil, v_nilck, v_pick, ev, evs_nil, evs_cons, fr_get_cons, fr_put_nil, fr_put_cons, fr_put_some, fr_put_none, fr_keep_nil, fr_keep_cons, fr_has_nil, fr_has_cons, Option.bind_some, Option.map_some, xbin, ibin, xresult_eq, xress_nil, xress_tmp, resV, ex_some, if_true, if_false, ite_true, ite_false, reduceIte, reduceCtorEq, Nat.reduceEqDiff, Nat.reduceLT, Nat.reduceLeDiff, Int.reduceLT, Int.reduceLE, Nat.zero_add, Nat.reduceAdd, Bool.false_eq_true, decide_eq_true_eq, decide_eq_false_iff_not, true_implies, false_implies, and_true, true_and, r2, z1, w2, w3, w4, beq_self_eq_true]
  refine eqf_ok va vb ps l2 H5 _ rp5 (o4.rp.ext x5) hm4.symm (fun p hp => by have := hpb p hp; omega) (by omega) ?_
  intro H6 x6
  simp only [ofArgs, run_seq, run_block, run_ops, run_skip, run_exit, run_ret, thenQ_normal, thenQ_exit, thenQ_ret, blockQ_normal, blockQ_exit, blockQ_ret, retQ_ret, retQ_normal, ops_nil, ops_none, got_some, ops_wT, ops_wTn, ops_wF, ops_wFn, ops_wU, dops_wT, dops_wTn, dops_wF, dops_wFn, dops_wU, run_condT, run_condF, alt2_int, altB_bool, altI_int, altBB_bool, v_min, v_max, v_not, v_neg, optEv_none, optEv_some, isSome'_none, isSome'_some, pExt0, pExt1, pExt2, Bool.false_and, Bool.true_and, Bool.not_true, Bool.not_false, cond_true, cond_false, dops_nil, dops_none, xval_call, v_mov, v_bin, v_len, v_ext, v_idxA, v_ld, v_st, v_app, v_appN, v_cvs, v_bs1, pBs1, v_slc, v_conv, v_fld, v_fldA, v_new, v_box, v_mks, v_copy, v_isnil, v_nilck, v_pick, ev, evs_nil, evs_cons, fr_get_cons, fr_put_nil, fr_put_cons, fr_put_some, fr_put_none, fr_keep_nil, fr_keep_cons, fr_has_nil, fr_has_cons, Option.bind_some, Option.map_some, xbin, ibin, xresult_eq, xress_nil, xress_tmp, resV, ex_some, if_true, if_false, ite_true, ite_false, reduceIte, reduceCtorEq, Nat.reduceEqDiff, Nat.reduceLT, Nat.reduceLeDiff, Int.reduceLT, Int.reduceLE, Nat.zero_add, Nat.reduceAdd, Bool.false_eq_true, decide_eq_true_eq, decide_eq_false_iff_not, true_implies, false_implies, and_true, true_and]
end Go.Proofs.Ytejedmocjdcdgaa.D
