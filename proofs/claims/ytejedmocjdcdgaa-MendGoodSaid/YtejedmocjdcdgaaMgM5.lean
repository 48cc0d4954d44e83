/- What runs of the program's functions compute, on a heap of the run's own, and that the machine does what such a run says: the conditions stand in each theorem. -/
import Derived.Test.YtejedmocjdcdgaaMgM4
set_option linter.unusedSimpArgs false
set_option linter.unusedVariables false
namespace Go.Proofs.Ytejedmocjdcdgaa.D
open Go Go.Det

def byAt (k : Nat) (s : SD) : Int := s.bs.getD k 0
theorem vote_l0 (n0 A k : Nat) (v : Value) (rest : List SD) : ∀ (pre : List SD) (H : AH) (i N : Int) (Q : XExit → Fr → AH → Prop), SDs H v (pre ++ rest) → (∀ b, inB v b → b < n0) → (∀ s ∈ pre ++ rest, ∀ b, inB s.w b → b < n0) → (∀ s ∈ rest, B8 s.bs ∧ k < s.bs.length) → n0 ≤ A → Arr H A (hist (pre.map (byAt k))) → pre.length + rest.length ≤ 1000 → k < 1000 → i = (pre.length : Int) → N = ((pre ++ rest).length : Int) →
    (∀ H', Arr H' A (hist ((pre ++ rest).map (byAt k))) → H.n ≤ H'.n → (∀ b, b < H.n → b ≠ A → H'.get b = H.get b) → Q (.exit 0) [(0, v), (1, .int .i64 (k : Int)), (6, .pointer (some ⟨A, 0, none⟩)), (11, v), (12, .int .i64 N), (13, .int .i64 N), (14, .bool false)] H') →
    Run Try.prog tab (.loop xmend_vote_l0) [(0, v), (1, .int .i64 (k : Int)), (6, .pointer (some ⟨A, 0, none⟩)), (11, v), (12, .int .i64 N), (13, .int .i64 i)] H Q := by
  induction rest with
  | nil =>
    intro pre H i N Q hv hvb hwb hok hA ha hl hk hi hN hq
    rw [run_loop]
    generalize hL : XCode.loop xmend_vote_l0 = L
    have hiN : i = N := by simp at hN; omega
    subst hiN
    have hf : ¬ i < i := by omega
    simp only [xmend_vote_l0, ofArgs, run_seq, run_block, run_ops, run_skip, run_exit, run_ret, thenQ_normal, thenQ_exit, thenQ_ret, blockQ_normal, blockQ_exit, blockQ_ret, retQ_ret, retQ_normal, ops_nil, ops_none, got_some, ops_wT, ops_wTn, ops_wF, ops_wFn, ops_wU, dops_wT, dops_wTn, dops_wF, dops_wFn, dops_wU, run_condT, run_condF, alt2_int, altB_bool, altI_int, altBB_bool, v_min, v_max, v_not, v_neg, optEv_none, optEv_some, isSome'_none, isSome'_some, pExt0, pExt1, pExt2, Bool.false_and, Bool.true_and, Bool.not_true, Bool.not_false, cond_true, cond_false, dops_nil, dops_none, xval_call, v_mov, v_bin, v_len, v_ext, v_idxA, v_ld, v_st, v_app, v_appN, v_cvs, v_bs1, pBs1, v_slc, v_conv, v_fld, v_fldA, v_new, v_box, v_mks, v_copy, v_isnil, v_nilck, v_pick, ev, evs_nil, evs_cons, fr_get_cons, fr_put_nil, fr_put_cons, fr_put_some, fr_put_none, fr_keep_nil, fr_keep_cons, fr_has_nil, fr_has_cons, Option.bind_some, Option.map_some, xbin, ibin, xresult_eq, xress_nil, xress_tmp, resV, ex_some, if_true, if_false, ite_true, ite_false, reduceIte, reduceCtorEq, Nat.reduceEqDiff, Nat.reduceLT, Nat.reduceLeDiff, Int.reduceLT, Int.reduceLE, Nat.zero_add, Nat.reduceAdd, Bool.false_eq_true, decide_eq_true_eq, decide_eq_false_iff_not, true_implies, false_implies, and_true, true_and, hf, decide_false]
    exact hq H (by simpa using ha) (Nat.le_refl _) (fun _ _ _ => rfl)
  | cons s rest ih =>
    intro pre H i N Q hv hvb hwb hok hA ha hl hk hi hN hq
    rw [run_loop]
    generalize hL : XCode.loop xmend_vote_l0 = L
    simp only [List.length_cons] at hl
    have hlt : i < N := by simp at hN; omega
    have e1 := sds_idx hv i hi
    have e2 := sds_ld hv
    have hb := hv.2 s (by simp)
    obtain ⟨o1, o2⟩ := slice_one hb
    have st := bxS_st H s o1
    have hx := bxS_ext H s
    have l2 := bx4_2 (bxS_get H s)
    have nn := bxS_n H s
    obtain ⟨h8, hkl⟩ := hok s (by simp)
    have hbx : Byts (bxS H s) s.w s.bs := Sl.ext hx hb
    have hget : s.bs[k]? = some (byAt k s) := by
      unfold byAt
      rw [List.getD_eq_getElem?_getD, List.getElem?_eq_getElem hkl]; rfl
    have hby := h8 (byAt k s) (List.mem_of_getElem? hget)
    have e3 := byts_idx hbx (k : Int) k rfl hkl
    have e4 := byts_ld hbx k _ hget
    generalize hx0 : byAt k s = x at *
    obtain ⟨c, hc⟩ : ∃ c : Nat, x = (c : Int) := ⟨x.toNat, by omega⟩
    subst hc
    have a1 := ha.ext hx
    have e5 := fun H => pAA'_of 256 A .u8 (c : Int) c rfl (by omega) H
    have e6 := a1.ld c _ (hist_get _ c (by omega))
    have hcnt := List.count_le_length (a := (c : Int)) (l := pre.map (byAt k))
    rw [List.length_map] at hcnt
    have w1 := wrI (((List.count (c : Int) (pre.map (byAt k)) : Nat) : Int) + 1) (by omega) (by omega)
    have stA := a1.st c (by rw [hist_len]; omega) (((List.count (c : Int) (pre.map (byAt k)) : Nat) : Int) + 1)
    rw [hist_snoc _ c (by omega)] at stA
    have a2 := a1.set (hist (pre.map (byAt k) ++ [(c : Int)]))
    have w3 := wrI (i + 1) (by omega) (by omega)
    have keep : ∀ b, b ≠ A → ((bxS H s).set A ⟨(hist (pre.map (byAt k) ++ [(c : Int)])).map (.int .i64), 1, false, false⟩).get b = (bxS H s).get b := fun b hb => by rw [AH.get_set, if_neg hb]
    simp only [xmend_vote_l0, ofArgs, run_seq, run_block, run_ops, run_skip, run_exit, run_ret, thenQ_normal, thenQ_exit, thenQ_ret, blockQ_normal, blockQ_exit, blockQ_ret, retQ_ret, retQ_normal, ops_nil, ops_none, got_some, ops_wT, ops_wTn, ops_wF, ops_wFn, ops_wU, dops_wT, dops_wTn, dops_wF, dops_wFn, dops_wU, run_condT, run_condF, alt2_int, altB_bool, altI_int, altBB_bool, v_min, v_max, v_not, v_neg, optEv_none, optEv_some, isSome'_none, isSome'_some, pExt0, pExt1, pExt2, Bool.false_and, Bool.true_and, Bool.not_true, Bool.not_false, cond_true, cond_false, dops_nil, dops_none, xval_call, v_mov, v_bin, v_len, v_ext, v_idxA, v_ld, v_st, v_app, v_appN, v_cvs, v_bs1, pBs1, v_slc, v_conv, v_fld, v_fldA, v_new, v_box, v_mks, v_copy, v_isnil, v_nilck, v_pick, ev, evs_nil, evs_cons, fr_get_cons, fr_put_nil, fr_put_cons, fr_put_some, fr_put_none, fr_keep_nil, fr_keep_cons, fr_has_nil, fr_has_cons, Option.bind_some, Option.map_some, xbin, ibin, xresult_eq, xress_nil, xress_tmp, resV, ex_some, if_true, if_false, ite_true, ite_false, reduceIte, reduceCtorEq, Nat.reduceEqDiff, Nat.reduceLT, Nat.reduceLeDiff, Int.reduceLT, Int.reduceLE, Nat.zero_add, Nat.reduceAdd, Bool.false_eq_true, decide_eq_true_eq, decide_eq_false_iff_not, true_implies, false_implies, and_true, true_and, hlt, decide_true, e1, e2, st, fldA2, l2, e3, e4, v_iaa, e5, e6, w1, stA, w3]
    have nset : ((bxS H s).set A ⟨(hist (pre.map (byAt k) ++ [(c : Int)])).map (.int .i64), 1, false, false⟩).n = (bxS H s).n := rfl
    generalize (bxS H s).set A ⟨(hist (pre.map (byAt k) ++ [(c : Int)])).map (.int .i64), 1, false, false⟩ = H2 at *
    subst hL
    have kk : ∀ b, b < H.n → b ≠ A → H2.get b = H.get b := fun b hb hbA => (keep b hbA).trans (hx.2 b hb)
    have hv2 : SDs H2 v (pre ++ s :: rest) := ⟨Sl.same hv.1 (by omega) fun b hb => kk b (Sl.lt hv.1 hb) (by have := hvb b hb; omega), fun t ht => Sl.same (hv.2 t ht) (by omega) fun b hb => kk b (Sl.lt (hv.2 t ht) hb) (by have := hwb t ht b hb; omega)⟩
    refine ih (pre ++ [s]) H2 (i + 1) N Q (by rw [← List.append_cons]; exact hv2) hvb (by rw [← List.append_cons]; exact hwb) (fun y hy => hok y (by simp [hy])) hA (by rw [List.map_append, List.map_singleton, hx0]; exact a2) (by simp; omega) hk (by simp; omega) (by simpa using hN) ?_
    intro H3 a3 n3 k3
    refine hq H3 (by simpa using a3) (by omega) fun b hb hbA => (k3 b (by omega) hbA).trans (kk b hb hbA)
theorem vote_l1 (A : Nat) (v : Value) (xs : List Int) (H : AH) (ha : Arr H A (hist xs)) (r : Nat) : ∀ (i best : Nat) (Q : XExit → Fr → AH → Prop), best < 256 → i + r = 256 → (∀ c, c < i → xs.count (c : Int) ≤ xs.count (best : Int)) →
    (∀ best' : Nat, best' < 256 → (∀ c : Nat, c < 256 → xs.count (c : Int) ≤ xs.count (best' : Int)) → Q (.exit 2) [(0, v), (6, .pointer (some ⟨A, 0, none⟩)), (9, .int .i64 (best' : Int)), (27, .int .i64 256), (28, .bool false)] H) →
    Run Try.prog tab (.loop xmend_vote_l1) [(0, v), (6, .pointer (some ⟨A, 0, none⟩)), (9, .int .i64 (best : Int)), (27, .int .i64 (i : Int))] H Q := by
  induction r with
  | zero =>
    intro i best Q hb hi hm hq
    rw [run_loop]
    generalize hL : XCode.loop xmend_vote_l1 = L
    have hi6 : i = 256 := by omega
    subst hi6
    have hn : ((256 : Nat) : Int) = 256 := rfl
    simp only [hn, xmend_vote_l1, ofArgs, run_seq, run_block, run_ops, run_skip, run_exit, run_ret, thenQ_normal, thenQ_exit, thenQ_ret, blockQ_normal, blockQ_exit, blockQ_ret, retQ_ret, retQ_normal, ops_nil, ops_none, got_some, ops_wT, ops_wTn, ops_wF, ops_wFn, ops_wU, dops_wT, dops_wTn, dops_wF, dops_wFn, dops_wU, run_condT, run_condF, alt2_int, altB_bool, altI_int, altBB_bool, v_min, v_max, v_not, v_neg, optEv_none, optEv_some, isSome'_none, isSome'_some, pExt0, pExt1, pExt2, Bool.false_and, Bool.true_and, Bool.not_true, Bool.not_false, cond_true, cond_false, dops_nil, dops_none, xval_call, v_mov, v_bin, v_len, v_ext, v_idxA, v_ld, v_st, v_app, v_appN, v_cvs, v_bs1, pBs1, v_slc, v_conv, v_fld, v_fldA, v_new, v_box, v_mks, v_copy, v_isnil, v_nilck, v_pick, ev, evs_nil, evs_cons, fr_get_cons, fr_put_nil, fr_put_cons, fr_put_some, fr_put_none, fr_keep_nil, fr_keep_cons, fr_has_nil, fr_has_cons, Option.bind_some, Option.map_some, xbin, ibin, xresult_eq, xress_nil, xress_tmp, resV, ex_some, if_true, if_false, ite_true, ite_false, reduceIte, reduceCtorEq, Nat.reduceEqDiff, Nat.reduceLT, Nat.reduceLeDiff, Int.reduceLT, Int.reduceLE, Nat.zero_add, Nat.reduceAdd, Bool.false_eq_true, decide_eq_true_eq, decide_eq_false_iff_not, true_implies, false_implies, and_true, true_and, Int.lt_irrefl, decide_false]
    exact hq best hb hm
  | succ r ih =>
    intro i best Q hb hi hm hq
    rw [run_loop]
    generalize hL : XCode.loop xmend_vote_l1 = L
    have hlt : (i : Int) < 256 := by omega
    have e5 := fun H => pAA'_of 256 A .i64 (i : Int) i rfl (by omega) H
    have e6 := fun H => pAA'_of 256 A .i64 (best : Int) best rfl (by omega) H
    have e7 := ha.ld i _ (hist_get _ i (by omega))
    have e8 := ha.ld best _ (hist_get _ best hb)
    have w3 : IntKind.i64.wrap ((i : Int) + 1) = ((i + 1 : Nat) : Int) := by rw [wrI _ (by omega) (by omega)]; omega
    by_cases hc : ((xs.count (i : Int) : Nat) : Int) > ((xs.count (best : Int) : Nat) : Int)
    · simp only [xmend_vote_l1, ofArgs, run_seq, run_block, run_ops, run_skip, run_exit, run_ret, thenQ_normal, thenQ_exit, thenQ_ret, blockQ_normal, blockQ_exit, blockQ_ret, retQ_ret, retQ_normal, ops_nil, ops_none, got_some, ops_wT, ops_wTn, ops_wF, ops_wFn, ops_wU, dops_wT, dops_wTn, dops_wF, dops_wFn, dops_wU, run_condT, run_condF, alt2_int, altB_bool, altI_int, altBB_bool, v_min, v_max, v_not, v_neg, optEv_none, optEv_some, isSome'_none, isSome'_some, pExt0, pExt1, pExt2, Bool.false_and, Bool.true_and, Bool.not_true, Bool.not_false, cond_true, cond_false, dops_nil, dops_none, xval_call, v_mov, v_bin, v_len, v_ext, v_idxA, v_ld, v_st, v_app, v_appN, v_cvs, v_bs1, pBs1, v_slc, v_conv, v_fld, v_fldA, v_new, v_box, v_mks, v_copy, v_isnil, v_nilck, v_pick, ev, evs_nil, evs_cons, fr_get_cons, fr_put_nil, fr_put_cons, fr_put_some, fr_put_none, fr_keep_nil, fr_keep_cons, fr_has_nil, fr_has_cons, Option.bind_some, Option.map_some, xbin, ibin, xresult_eq, xress_nil, xress_tmp, resV, ex_some, if_true, if_false, ite_true, ite_false, reduceIte, reduceCtorEq, Nat.reduceEqDiff, Nat.reduceLT, Nat.reduceLeDiff, Int.reduceLT, Int.reduceLE, Nat.zero_add, Nat.reduceAdd, Bool.false_eq_true, decide_eq_true_eq, decide_eq_false_iff_not, true_implies, false_implies, and_true, true_and, hlt, decide_true]
      refine run_dops _ _ _ _ _ rfl ?_
      simp only [ofArgs, run_seq, run_block, run_ops, run_skip, run_exit, run_ret, thenQ_normal, thenQ_exit, thenQ_ret, blockQ_normal, blockQ_exit, blockQ_ret, retQ_ret, retQ_normal, ops_nil, ops_none, got_some, ops_wT, ops_wTn, ops_wF, ops_wFn, ops_wU, dops_wT, dops_wTn, dops_wF, dops_wFn, dops_wU, run_condT, run_condF, alt2_int, altB_bool, altI_int, altBB_bool, v_min, v_max, v_not, v_neg, optEv_none, optEv_some, isSome'_none, isSome'_some, pExt0, pExt1, pExt2, Bool.false_and, Bool.true_and, Bool.not_true, Bool.not_false, cond_true, cond_false, dops_nil, dops_none, xval_call, v_mov, v_bin, v_len, v_ext, v_idxA, v_ld, v_st, v_app, v_appN, v_cvs, v_bs1, pBs1, v_slc, v_conv, v_fld, v_fldA, v_new, v_box, v_mks, v_copy, v_isnil, v_nilck, v_pick, ev, evs_nil, evs_cons, fr_get_cons, fr_put_nil, fr_put_cons, fr_put_some, fr_put_none, fr_keep_nil, fr_keep_cons, fr_has_nil, fr_has_cons, Option.bind_some, Option.map_some, xbin, ibin, xresult_eq, xress_nil, xress_tmp, resV, ex_some, if_true, if_false, ite_true, ite_false, reduceIte, reduceCtorEq, Nat.reduceEqDiff, Nat.reduceLT, Nat.reduceLeDiff, Int.reduceLT, Int.reduceLE, Nat.zero_add, Nat.reduceAdd, Bool.false_eq_true, decide_eq_true_eq, decide_eq_false_iff_not, true_implies, false_implies, and_true, true_and, v_iaa, e5, e6, e7, e8, hc, decide_true, w3]
      subst hL
      refine ih (i + 1) i Q (by omega) (by omega) (fun c hci => ?_) hq
      by_cases h : c = i
      · subst h; exact Nat.le_refl _
      · have := hm c (by omega); omega
    · simp only [xmend_vote_l1, ofArgs, run_seq, run_block, run_ops, run_skip, run_exit, run_ret, thenQ_normal, thenQ_exit, thenQ_ret, blockQ_normal, blockQ_exit, blockQ_ret, retQ_ret, retQ_normal, ops_nil, ops_none, got_some, ops_wT, ops_wTn, ops_wF, ops_wFn, ops_wU, dops_wT, dops_wTn, dops_wF, dops_wFn, dops_wU, run_condT, run_condF, alt2_int, altB_bool, altI_int, altBB_bool, v_min, v_max, v_not, v_neg, optEv_none, optEv_some, isSome'_none, isSome'_some, pExt0, pExt1, pExt2, Bool.false_and, Bool.true_and, Bool.not_true, Bool.not_false, cond_true, cond_false, dops_nil, dops_none, xval_call, v_mov, v_bin, v_len, v_ext, v_idxA, v_ld, v_st, v_app, v_appN, v_cvs, v_bs1, pBs1, v_slc, v_conv, v_fld, v_fldA, v_new, v_box, v_mks, v_copy, v_isnil, v_nilck, v_pick, ev, evs_nil, evs_cons, fr_get_cons, fr_put_nil, fr_put_cons, fr_put_some, fr_put_none, fr_keep_nil, fr_keep_cons, fr_has_nil, fr_has_cons, Option.bind_some, Option.map_some, xbin, ibin, xresult_eq, xress_nil, xress_tmp, resV, ex_some, if_true, if_false, ite_true, ite_false, reduceIte, reduceCtorEq, Nat.reduceEqDiff, Nat.reduceLT, Nat.reduceLeDiff, Int.reduceLT, Int.reduceLE, Nat.zero_add, Nat.reduceAdd, Bool.false_eq_true, decide_eq_true_eq, decide_eq_false_iff_not, true_implies, false_implies, and_true, true_and, hlt, decide_true]
      refine run_dops _ _ _ _ _ rfl ?_
      simp only [ofArgs, run_seq, run_block, run_ops, run_skip, run_exit, run_ret, thenQ_normal, thenQ_exit, thenQ_ret, blockQ_normal, blockQ_exit, blockQ_ret, retQ_ret, retQ_normal, ops_nil, ops_none, got_some, ops_wT, ops_wTn, ops_wF, ops_wFn, ops_wU, dops_wT, dops_wTn, dops_wF, dops_wFn, dops_wU, run_condT, run_condF, alt2_int, altB_bool, altI_int, altBB_bool, v_min, v_max, v_not, v_neg, optEv_none, optEv_some, isSome'_none, isSome'_some, pExt0, pExt1, pExt2, Bool.false_and, Bool.true_and, Bool.not_true, Bool.not_false, cond_true, cond_false, dops_nil, dops_none, xval_call, v_mov, v_bin, v_len, v_ext, v_idxA, v_ld, v_st, v_app, v_appN, v_cvs, v_bs1, pBs1, v_slc, v_conv, v_fld, v_fldA, v_new, v_box, v_mks, v_copy, v_isnil, v_nilck, v_pick, ev, evs_nil, evs_cons, fr_get_cons, fr_put_nil, fr_put_cons, fr_put_some, fr_put_none, fr_keep_nil, fr_keep_cons, fr_has_nil, fr_has_cons, Option.bind_some, Option.map_some, xbin, ibin, xresult_eq, xress_nil, xress_tmp, resV, ex_some, if_true, if_false, ite_true, ite_false, reduceIte, reduceCtorEq, Nat.reduceEqDiff, Nat.reduceLT, Nat.reduceLeDiff, Int.reduceLT, Int.reduceLE, Nat.zero_add, Nat.reduceAdd, Bool.false_eq_true, decide_eq_true_eq, decide_eq_false_iff_not, true_implies, false_implies, and_true, true_and, v_iaa, e5, e6, e7, e8, hc, decide_false, w3]
      subst hL
      refine ih (i + 1) best Q hb (by omega) (fun c hci => ?_) hq
      by_cases h : c = i
      · subst h; omega
      · exact hm c (by omega)
end Go.Proofs.Ytejedmocjdcdgaa.D

set_option linter.unusedSimpArgs false
set_option linter.unusedVariables false
namespace Go.Proofs.Ytejedmocjdcdgaa.D
open Go Go.Det

theorem run_newArr {P : Program} {T : XTab} (rest : XCode) (fr : Fr) (H : AH) (Q : XExit → Fr → AH → Prop) (dst : Nat) (t : TypeId) (zs : List Value) (keep : List Nat) (h : ∀ H1, H1 = H.push ⟨zs, 1, false, false⟩ → Run P T rest ((fr.put? (some dst) (.pointer (some ⟨H.n, 0, none⟩))).keep keep) H1 Q) :
    Run P T (.seq (.ops [⟨some dst, .new t 1 zs, none⟩] keep) rest) fr H Q := by
  rw [run_seq, run_ops, ops_none, v_new, got_some, ops_nil, thenQ_normal]
  exact h _ rfl
set_option maxRecDepth 20000 in
theorem vote_ok (v : Value) (l : List SD) (k : Nat) (H : AH) (Q : Value → AH → Prop) (hv : SDs H v l) (hok : ∀ s ∈ l, B8 s.bs ∧ k < s.bs.length) (hl : l.length ≤ 1000) (hk : k < 1000)
    (hq : ∀ (H' : AH) (best : Nat), best < 256 → (∀ c : Nat, c < 256 → (l.map (byAt k)).count (c : Int) ≤ (l.map (byAt k)).count (best : Int)) → HExt H H' → Q (.tuple [.int .u8 (best : Int), .bool ((((l.map (byAt k)).count (best : Int) : Nat) : Int) == (l.length : Int))].toArray) H') :
    Got (xc Try.prog tab 131 [v, .int .i64 (k : Int)] H) Q := by
  refine got_call (res := [.tmp 4, .tmp 5]) rfl ?_
  generalize hT : ((.seq (.ops [⟨some 6, .new 209 1 [.int .i64 0, .int .i64 0, .int .i64 0, .int .i64 0, .int .i64 0, .int .i64 0, .int .i64 0, .int .i64 0, .int .i64 0, .int .i64 0, .int .i64 0, .int .i64 0, .int .i64 0, .int .i64 0, .int .i64 0, .int .i64 0, .int .i64 0, .int .i64 0, .int .i64 0, .int .i64 0, .int .i64 0, .int .i64 0, .int .i64 0, .int .i64 0, .int .i64 0, .int .i64 0, .int .i64 0, .int .i64 0, .int .i64 0, .int .i64 0, .int .i64 0, .int .i64 0, .int .i64 0, .int .i64 0, .int .i64 0, .int .i64 0, .int .i64 0, .int .i64 0, .int .i64 0, .int .i64 0, .int .i64 0, .int .i64 0, .int .i64 0, .int .i64 0, .int .i64 0, .int .i64 0, .int .i64 0, .int .i64 0, .int .i64 0, .int .i64 0, .int .i64 0, .int .i64 0, .int .i64 0, .int .i64 0, .int .i64 0, .int .i64 0, .int .i64 0, .int .i64 0, .int .i64 0, .int .i64 0, .int .i64 0, .int .i64 0, .int .i64 0, .int .i64 0, .int .i64 0, .int .i64 0, .int .i64 0, .int .i64 0, .int .i64 0, .int .i64 0, .int .i64 0, .int .i64 0, .int .i64 0, .int .i64 0, .int .i64 0, .int .i64 0, .int .i64 0, .int .i64 0, .int .i64 0, .int .i64 0, .int .i64 0, .int .i64 0, .int .i64 0, .int .i64 0, .int .i64 0, .int .i64 0, .int .i64 0, .int .i64 0, .int .i64 0, .int .i64 0, .int .i64 0, .int .i64 0, .int .i64 0, .int .i64 0, .int .i64 0, .int .i64 0, .int .i64 0, .int .i64 0, .int .i64 0, .int .i64 0, .int .i64 0, .int .i64 0, .int .i64 0, .int .i64 0, .int .i64 0, .int .i64 0, .int .i64 0, .int .i64 0, .int .i64 0, .int .i64 0, .int .i64 0, .int .i64 0, .int .i64 0, .int .i64 0, .int .i64 0, .int .i64 0, .int .i64 0, .int .i64 0, .int .i64 0, .int .i64 0, .int .i64 0, .int .i64 0, .int .i64 0, .int .i64 0, .int .i64 0, .int .i64 0, .int .i64 0, .int .i64 0, .int .i64 0, .int .i64 0, .int .i64 0, .int .i64 0, .int .i64 0, .int .i64 0, .int .i64 0, .int .i64 0, .int .i64 0, .int .i64 0, .int .i64 0, .int .i64 0, .int .i64 0, .int .i64 0, .int .i64 0, .int .i64 0, .int .i64 0, .int .i64 0, .int .i64 0, .int .i64 0, .int .i64 0, .int .i64 0, .int .i64 0, .int .i64 0, .int .i64 0, .int .i64 0, .int .i64 0, .int .i64 0, .int .i64 0, .int .i64 0, .int .i64 0, .int .i64 0, .int .i64 0, .int .i64 0, .int .i64 0, .int .i64 0, .int .i64 0, .int .i64 0, .int .i64 0, .int .i64 0, .int .i64 0, .int .i64 0, .int .i64 0, .int .i64 0, .int .i64 0, .int .i64 0, .int .i64 0, .int .i64 0, .int .i64 0, .int .i64 0, .int .i64 0, .int .i64 0, .int .i64 0, .int .i64 0, .int .i64 0, .int .i64 0, .int .i64 0, .int .i64 0, .int .i64 0, .int .i64 0, .int .i64 0, .int .i64 0, .int .i64 0, .int .i64 0, .int .i64 0, .int .i64 0, .int .i64 0, .int .i64 0, .int .i64 0, .int .i64 0, .int .i64 0, .int .i64 0, .int .i64 0, .int .i64 0, .int .i64 0, .int .i64 0, .int .i64 0, .int .i64 0, .int .i64 0, .int .i64 0, .int .i64 0, .int .i64 0, .int .i64 0, .int .i64 0, .int .i64 0, .int .i64 0, .int .i64 0, .int .i64 0, .int .i64 0, .int .i64 0, .int .i64 0, .int .i64 0, .int .i64 0, .int .i64 0, .int .i64 0, .int .i64 0, .int .i64 0, .int .i64 0, .int .i64 0, .int .i64 0, .int .i64 0, .int .i64 0, .int .i64 0, .int .i64 0, .int .i64 0, .int .i64 0, .int .i64 0, .int .i64 0, .int .i64 0, .int .i64 0, .int .i64 0, .int .i64 0, .int .i64 0, .int .i64 0, .int .i64 0, .int .i64 0, .int .i64 0, .int .i64 0, .int .i64 0, .int .i64 0, .int .i64 0, .int .i64 0, .int .i64 0, .int .i64 0, .int .i64 0, .int .i64 0, .int .i64 0, .int .i64 0], none⟩] [0, 1, 6]) (.seq (.seq (.ops [⟨some 11, .mov (.tmp 0), none⟩, ⟨some 12, .len (.tmp 11), none⟩, ⟨some 13, .mov (.const (.int .i64 0)), none⟩] [0, 1, 6, 11, 12, 13]) (.block 0 (.loop xmend_vote_l0))) (.seq (.ops [⟨some 9, .mov (.const (.int .i64 0)), none⟩] [0, 6, 9]) (.seq (.seq (.ops [⟨some 27, .mov (.const (.int .i64 0)), none⟩] [0, 6, 9, 27]) (.block 2 (.loop xmend_vote_l1))) (.seq (.dops [.mk ⟨some 39, .mov (.tmp 9), none⟩ [9] 0 [], .mk ⟨some 40, .conv .u8 (.tmp 39), none⟩ [39] 0 [], .mk ⟨some 41, .mov (.tmp 9), none⟩ [9] 0 [], .mk ⟨some 42, .idxAA 256 1 (.tmp 6) (.tmp 41), none⟩ [6, 41] 0 [], .mk ⟨some 43, .ld none (.tmp 42), none⟩ [42] 1 [], .mk ⟨some 44, .mov (.tmp 0), none⟩ [0] 0 [], .mk ⟨some 45, .len (.tmp 44), none⟩ [44] 0 [], .mk ⟨some 46, .bin .eql (.tmp 43) (.tmp 45), none⟩ [43, 45] 0 [], .mk ⟨some 4, .mov (.tmp 40), none⟩ [40] 0 [], .mk ⟨some 5, .mov (.tmp 46), none⟩ [46] 0 []] [4, 5]) .ret))))) : XCode) = T
  simp only [ofArgs, run_seq, run_block, run_ops, run_skip, run_exit, run_ret, thenQ_normal, thenQ_exit, thenQ_ret, blockQ_normal, blockQ_exit, blockQ_ret, retQ_ret, retQ_normal, ops_nil, ops_none, got_some, ops_wT, ops_wTn, ops_wF, ops_wFn, ops_wU, dops_wT, dops_wTn, dops_wF, dops_wFn, dops_wU, run_condT, run_condF, alt2_int, altB_bool, altI_int, altBB_bool, v_min, v_max, v_not, v_neg, optEv_none, optEv_some, isSome'_none, isSome'_some, pExt0, pExt1, pExt2, Bool.false_and, Bool.true_and, Bool.not_true, Bool.not_false, cond_true, cond_false, dops_nil, dops_none, xval_call, v_mov, v_bin, v_len, v_ext, v_idxA, v_ld, v_st, v_app, v_appN, v_cvs, v_bs1, pBs1, v_slc, v_conv, v_fld, v_fldA, v_new, v_box, v_mks, v_copy, v_isnil, v_nilck, v_pick, ev, evs_nil, evs_cons, fr_get_cons, fr_put_nil, fr_put_cons, fr_put_some, fr_put_none, fr_keep_nil, fr_keep_cons, fr_has_nil, fr_has_cons, Option.bind_some, Option.map_some, xbin, ibin, xresult_eq, xress_nil, xress_tmp, resV, ex_some, if_true, if_false, ite_true, ite_false, reduceIte, reduceCtorEq, Nat.reduceEqDiff, Nat.reduceLT, Nat.reduceLeDiff, Int.reduceLT, Int.reduceLE, Nat.zero_add, Nat.reduceAdd, Bool.false_eq_true, decide_eq_true_eq, decide_eq_false_iff_not, true_implies, false_implies, and_true, true_and]
  subst hT
  refine run_newArr _ _ _ _ _ _ _ _ ?_
  intro H1 hH1
  have a1 : Arr H1 H.n (hist []) := by
    subst hH1
    exact ⟨by rw [AH.get_push, if_pos rfl, hist_nil]; rfl, Nat.lt_succ_self _⟩
  have x1 : HExt H H1 := by subst hH1; exact hext_push _ _
  have n1 : H1.n = H.n + 1 := by subst hH1; rfl
  clear hH1
  have hv1 := hv.ext x1
  have e0 := hv1.1.len_ok
  generalize hT : ((.seq (.ops [⟨some 9, .mov (.const (.int .i64 0)), none⟩] [0, 6, 9]) (.seq (.seq (.ops [⟨some 27, .mov (.const (.int .i64 0)), none⟩] [0, 6, 9, 27]) (.block 2 (.loop xmend_vote_l1))) (.seq (.dops [.mk ⟨some 39, .mov (.tmp 9), none⟩ [9] 0 [], .mk ⟨some 40, .conv .u8 (.tmp 39), none⟩ [39] 0 [], .mk ⟨some 41, .mov (.tmp 9), none⟩ [9] 0 [], .mk ⟨some 42, .idxAA 256 1 (.tmp 6) (.tmp 41), none⟩ [6, 41] 0 [], .mk ⟨some 43, .ld none (.tmp 42), none⟩ [42] 1 [], .mk ⟨some 44, .mov (.tmp 0), none⟩ [0] 0 [], .mk ⟨some 45, .len (.tmp 44), none⟩ [44] 0 [], .mk ⟨some 46, .bin .eql (.tmp 43) (.tmp 45), none⟩ [43, 45] 0 [], .mk ⟨some 4, .mov (.tmp 40), none⟩ [40] 0 [], .mk ⟨some 5, .mov (.tmp 46), none⟩ [46] 0 []] [4, 5]) .ret))) : XCode) = T
  simp only [ofArgs, run_seq, run_block, run_ops, run_skip, run_exit, run_ret, thenQ_normal, thenQ_exit, thenQ_ret, blockQ_normal, blockQ_exit, blockQ_ret, retQ_ret, retQ_normal, ops_nil, ops_none, got_some, ops_wT, ops_wTn, ops_wF, ops_wFn, ops_wU, dops_wT, dops_wTn, dops_wF, dops_wFn, dops_wU, run_condT, run_condF, alt2_int, altB_bool, altI_int, altBB_bool, v_min, v_max, v_not, v_neg, optEv_none, optEv_some, isSome'_none, isSome'_some, pExt0, pExt1, pExt2, Bool.false_and, Bool.true_and, Bool.not_true, Bool.not_false, cond_true, cond_false, dops_nil, dops_none, xval_call, v_mov, v_bin, v_len, v_ext, v_idxA, v_ld, v_st, v_app, v_appN, v_cvs, v_bs1, pBs1, v_slc, v_conv, v_fld, v_fldA, v_new, v_box, v_mks, v_copy, v_isnil, v_nilck, v_pick, ev, evs_nil, evs_cons, fr_get_cons, fr_put_nil, fr_put_cons, fr_put_some, fr_put_none, fr_keep_nil, fr_keep_cons, fr_has_nil, fr_has_cons, Option.bind_some, Option.map_some, xbin, ibin, xresult_eq, xress_nil, xress_tmp, resV, ex_some, if_true, if_false, ite_true, ite_false, reduceIte, reduceCtorEq, Nat.reduceEqDiff, Nat.reduceLT, Nat.reduceLeDiff, Int.reduceLT, Int.reduceLE, Nat.zero_add, Nat.reduceAdd, Bool.false_eq_true, decide_eq_true_eq, decide_eq_false_iff_not, true_implies, false_implies, and_true, true_and, e0]
  refine vote_l0 H.n H.n k v l [] H1 0 _ _ (by simpa using hv1) (fun b hb => hv.1.lt hb) (fun s hs b hb => (hv.2 s (by simpa using hs)).lt hb) hok (Nat.le_refl _) (by simpa using a1) (by simp; omega) hk (by simp) (by simp) ?_
  intro H2 a2 n2 k2
  rw [List.nil_append] at a2
  have xx : HExt H H2 := ⟨by omega, fun b hb => (k2 b (by omega) (by omega)).trans (x1.2 b hb)⟩
  have hv2 := hv.ext xx
  have e2 := hv2.1.len_ok
  subst hT
  simp only [ofArgs, run_seq, run_block, run_ops, run_skip, run_exit, run_ret, thenQ_normal, thenQ_exit, thenQ_ret, blockQ_normal, blockQ_exit, blockQ_ret, retQ_ret, retQ_normal, ops_nil, ops_none, got_some, ops_wT, ops_wTn, ops_wF, ops_wFn, ops_wU, dops_wT, dops_wTn, dops_wF, dops_wFn, dops_wU, run_condT, run_condF, alt2_int, altB_bool, altI_int, altBB_bool, v_min, v_max, v_not, v_neg, optEv_none, optEv_some, isSome'_none, isSome'_some, pExt0, pExt1, pExt2, Bool.false_and, Bool.true_and, Bool.not_true, Bool.not_false, cond_true, cond_false, dops_nil, dops_none, xval_call, v_mov, v_bin, v_len, v_ext, v_idxA, v_ld, v_st, v_app, v_appN, v_cvs, v_bs1, pBs1, v_slc, v_conv, v_fld, v_fldA, v_new, v_box, v_mks, v_copy, v_isnil, v_nilck, v_pick, ev, evs_nil, evs_cons, fr_get_cons, fr_put_nil, fr_put_cons, fr_put_some, fr_put_none, fr_keep_nil, fr_keep_cons, fr_has_nil, fr_has_cons, Option.bind_some, Option.map_some, xbin, ibin, xresult_eq, xress_nil, xress_tmp, resV, ex_some, if_true, if_false, ite_true, ite_false, reduceIte, reduceCtorEq, Nat.reduceEqDiff, Nat.reduceLT, Nat.reduceLeDiff, Int.reduceLT, Int.reduceLE, Nat.zero_add, Nat.reduceAdd, Bool.false_eq_true, decide_eq_true_eq, decide_eq_false_iff_not, true_implies, false_implies, and_true, true_and]
  have l1 := fun Q => vote_l1 H.n v (l.map (byAt k)) H2 a2 256 0 0 Q (by decide) rfl (fun c hc => by omega)
  refine l1 _ ?_
  intro best hb hm
  have e6 := fun H' => pAA'_of 256 H.n .i64 (best : Int) best rfl hb H'
  have e7 := a2.ld best _ (hist_get _ best hb)
  have cv := wrU8' (best : Int) (by omega) (by omega)
  simp only [ofArgs, run_seq, run_block, run_ops, run_skip, run_exit, run_ret, thenQ_normal, thenQ_exit, thenQ_ret, blockQ_normal, blockQ_exit, blockQ_ret, retQ_ret, retQ_normal, ops_nil, ops_none, got_some, ops_wT, ops_wTn, ops_wF, ops_wFn, ops_wU, dops_wT, dops_wTn, dops_wF, dops_wFn, dops_wU, run_condT, run_condF, alt2_int, altB_bool, altI_int, altBB_bool, v_min, v_max, v_not, v_neg, optEv_none, optEv_some, isSome'_none, isSome'_some, pExt0, pExt1, pExt2, Bool.false_and, Bool.true_and, Bool.not_true, Bool.not_false, cond_true, cond_false, dops_nil, dops_none, xval_call, v_mov, v_bin, v_len, v_ext, v_idxA, v_ld, v_st, v_app, v_appN, v_cvs, v_bs1, pBs1, v_slc, v_conv, v_fld, v_fldA, v_new, v_box, v_mks, v_copy, v_isnil, v_nilck, v_pick, ev, evs_nil, evs_cons, fr_get_cons, fr_put_nil, fr_put_cons, fr_put_some, fr_put_none, fr_keep_nil, fr_keep_cons, fr_has_nil, fr_has_cons, Option.bind_some, Option.map_some, xbin, ibin, xresult_eq, xress_nil, xress_tmp, resV, ex_some, if_true, if_false, ite_true, ite_false, reduceIte, reduceCtorEq, Nat.reduceEqDiff, Nat.reduceLT, Nat.reduceLeDiff, Int.reduceLT, Int.reduceLE, Nat.zero_add, Nat.reduceAdd, Bool.false_eq_true, decide_eq_true_eq, decide_eq_false_iff_not, true_implies, false_implies, and_true, true_and]
  refine run_dops _ _ _ _ _ rfl ?_
  simp only [ofArgs, run_seq, run_block, run_ops, run_skip, run_exit, run_ret, thenQ_normal, thenQ_exit, thenQ_ret, blockQ_normal, blockQ_exit, blockQ_ret, retQ_ret, retQ_normal, ops_nil, ops_none, got_some, ops_wT, ops_wTn, ops_wF, ops_wFn, ops_wU, dops_wT, dops_wTn, dops_wF, dops_wFn, dops_wU, run_condT, run_condF, alt2_int, altB_bool, altI_int, altBB_bool, v_min, v_max, v_not, v_neg, optEv_none, optEv_some, isSome'_none, isSome'_some, pExt0, pExt1, pExt2, Bool.false_and, Bool.true_and, Bool.not_true, Bool.not_false, cond_true, cond_false, dops_nil, dops_none, xval_call, v_mov, v_bin, v_len, v_ext, v_idxA, v_ld, v_st, v_app, v_appN, v_cvs, v_bs1, pBs1, v_slc, v_conv, v_fld, v_fldA, v_new, v_box, v_mks, v_copy, v_isnil, v_nilck, v_pick, ev, evs_nil, evs_cons, fr_get_cons, fr_put_nil, fr_put_cons, fr_put_some, fr_put_none, fr_keep_nil, fr_keep_cons, fr_has_nil, fr_has_cons, Option.bind_some, Option.map_some, xbin, ibin, xresult_eq, xress_nil, xress_tmp, resV, ex_some, if_true, if_false, ite_true, ite_false, reduceIte, reduceCtorEq, Nat.reduceEqDiff, Nat.reduceLT, Nat.reduceLeDiff, Int.reduceLT, Int.reduceLE, Nat.zero_add, Nat.reduceAdd, Bool.false_eq_true, decide_eq_true_eq, decide_eq_false_iff_not, true_implies, false_implies, and_true, true_and, v_iaa, e6, e7, pConv, cv, e2]
  exact hq H2 best hb hm xx
end Go.Proofs.Ytejedmocjdcdgaa.D

set_option linter.unusedSimpArgs false
set_option linter.unusedVariables false
namespace Go.Proofs.Ytejedmocjdcdgaa.D
open Go Go.Det

/-! ### fields of elements, boxes of any number of cells -/
theorem sds_cell {H : AH} {v : Value} {pre rest : List SD} {s : SD} (h : SDs H v (pre ++ s :: rest)) (off : Nat) (x : Value) (hx : (SDL.f s)[off]? = some x) : pLd none (ptrAt v (pre.length * 4 + off)) H = some (x, H) := by
  refine pLd_one h.1 _ _ ?_
  have hl : (SDL.cells pre).length = pre.length * 4 := LS.cells_len pre
  rw [LS.cells_app, List.getElem?_append_right (by omega), hl, show pre.length * 4 + off - pre.length * 4 = off by omega]
  have : SDL.cells (s :: rest) = SDL.f s ++ SDL.cells rest := by simp [LS.cells]
  rw [this, List.getElem?_append_left (List.getElem?_eq_some_iff.1 hx).1, hx]
theorem sds_fld {H : AH} {v : Value} {pre rest : List SD} {s : SD} (h : SDs H v (pre ++ s :: rest)) (off k : Nat) : pFldA off (ptrAt v k) H = some (ptrAt v (k + off), H) := ptr_fld h.1 (by simp; omega)
/-! ### mend.joined: the bytes by vote -/
def GoodF (l : List SD) (f : List (Int × Bool)) : Prop := ∀ k p, f[k]? = some p → (0 ≤ p.1 ∧ p.1 < 256) ∧ (∀ c : Nat, c < 256 → (l.map (byAt k)).count (c : Int) ≤ (l.map (byAt k)).count p.1) ∧ p.2 = ((((l.map (byAt k)).count p.1 : Nat) : Int) == (l.length : Int))
theorem GoodF.snoc {l : List SD} {f : List (Int × Bool)} (h : GoodF l f) (x : Int) (c : Bool) (h1 : (0 ≤ x ∧ x < 256) ∧ (∀ d : Nat, d < 256 → (l.map (byAt f.length)).count (d : Int) ≤ (l.map (byAt f.length)).count x) ∧ c = ((((l.map (byAt f.length)).count x : Nat) : Int) == (l.length : Int))) : GoodF l (f ++ [(x, c)]) := by
  intro k p hk
  by_cases hlt : k < f.length
  · rw [List.getElem?_append_left hlt] at hk
    exact h k p hk
  · rw [List.getElem?_append_right (by omega)] at hk
    have hkf : k = f.length := by
      rcases Nat.lt_or_ge (k - f.length) 1 with h2 | h2
      · omega
      · rw [List.getElem?_eq_none (by simpa using h2)] at hk; cases hk
    subst hkf
    simp only [Nat.sub_self, List.getElem?_cons_zero, Option.some.injEq] at hk
    subst hk
    exact h1
def nT (f : List (Int × Bool)) : Int := ((f.countP (·.2) : Nat) : Int)
set_option maxHeartbeats 4000000 in
theorem joined_l0 (n0 n2 E : Nat) (v p2 w : Value) (l : List SD) (hvb : ∀ b, inB v b → b < n0) (hwb : ∀ s ∈ l, ∀ b, inB s.w b → b < n0) (hok : ∀ s ∈ l, B8 s.bs ∧ s.bs.length = 128) (hl : l.length ≤ 1000) (hE : n0 ≤ E) (hE2 : E < n2) (tr nu : Int) (len : Int) (r : Nat) : ∀ (f : List (Int × Bool)) (H : AH) (i : Int) (Q : XExit → Fr → AH → Prop), SDs H v l → GoodF l f → OwnB n2 H w (f.map Prod.fst ++ List.replicate r 0) → n2 ≤ H.n → Bx H E [.int .i64 tr, .int .i64 nu, .slice none 0 0, .bool true, .int .i64 len, .int .i64 0, .int .i64 (nT f)] → f.length + r = 128 → i = (f.length : Int) →
    (∀ H' f', SDs H' v l → GoodF l f' → f'.length = 128 → OwnB n2 H' w (f'.map Prod.fst) → H.n ≤ H'.n → Bx H' E [.int .i64 tr, .int .i64 nu, .slice none 0 0, .bool true, .int .i64 len, .int .i64 0, .int .i64 (nT f')] → (∀ b, b < n2 → b ≠ E → H'.get b = H.get b) → Q (.exit 0) [(0, v), (2, p2), (3, .pointer (some ⟨E, 0, none⟩)), (4, w), (25, .int .i64 128), (26, .int .i64 128), (27, .bool false)] H') →
    Run Try.prog tab (.loop xmend_joined_l0) [(0, v), (2, p2), (3, .pointer (some ⟨E, 0, none⟩)), (4, w), (25, .int .i64 128), (26, .int .i64 i)] H Q := by
  induction r with
  | zero =>
    intro f H i Q hv hg ho hn hb hf hi hq
    rw [run_loop]
    generalize hL : XCode.loop xmend_joined_l0 = L
    have hi8 : i = 128 := by omega
    subst hi8
    simp only [xmend_joined_l0, ofArgs, run_seq, run_block, run_ops, run_skip, run_exit, run_ret, thenQ_normal, thenQ_exit, thenQ_ret, blockQ_normal, blockQ_exit, blockQ_ret, retQ_ret, retQ_normal, ops_nil, ops_none, got_some, ops_wT, ops_wTn, ops_wF, ops_wFn, ops_wU, dops_wT, dops_wTn, dops_wF, dops_wFn, dops_wU, run_condT, run_condF, alt2_int, altB_bool, altI_int, altBB_bool, v_min, v_max, v_not, v_neg, optEv_none, optEv_some, isSome'_none, isSome'_some, pExt0, pExt1, pExt2, Bool.false_and, Bool.true_and, Bool.not_true, Bool.not_false, cond_true, cond_false, dops_nil, dops_none, xval_call, v_mov, v_bin, v_len, v_ext, v_idxA, v_ld, v_st, v_app, v_appN, v_cvs, v_bs1, pBs1, v_slc, v_conv, v_fld, v_fldA, v_new, v_box, v_mks, v_copy, v_isnil, v_nilck, v_pick, ev, evs_nil, evs_cons, fr_get_cons, fr_put_nil, fr_put_cons, fr_put_some, fr_put_none, fr_keep_nil, fr_keep_cons, fr_has_nil, fr_has_cons, Option.bind_some, Option.map_some, xbin, ibin, xresult_eq, xress_nil, xress_tmp, resV, ex_some, if_true, if_false, ite_true, ite_false, reduceIte, reduceCtorEq, Nat.reduceEqDiff, Nat.reduceLT, Nat.reduceLeDiff, Int.reduceLT, Int.reduceLE, Nat.zero_add, Nat.reduceAdd, Bool.false_eq_true, decide_eq_true_eq, decide_eq_false_iff_not, true_implies, false_implies, and_true, true_and, Int.lt_irrefl, decide_false]
    exact hq H f hv hg (by omega) (by simpa using ho) (Nat.le_refl _) hb (fun _ _ _ => rfl)
  | succ r ih =>
    intro f H i Q hv hg ho hn hb hf hi hq
    rw [run_loop]
    generalize hL : XCode.loop xmend_joined_l0 = L
    have hlt : i < 128 := by omega
    subst hi
    simp only [xmend_joined_l0, ofArgs, run_seq, run_block, run_ops, run_skip, run_exit, run_ret, thenQ_normal, thenQ_exit, thenQ_ret, blockQ_normal, blockQ_exit, blockQ_ret, retQ_ret, retQ_normal, ops_nil, ops_none, got_some, ops_wT, ops_wTn, ops_wF, ops_wFn, ops_wU, dops_wT, dops_wTn, dops_wF, dops_wFn, dops_wU, run_condT, run_condF, alt2_int, altB_bool, altI_int, altBB_bool, v_min, v_max, v_not, v_neg, optEv_none, optEv_some, isSome'_none, isSome'_some, pExt0, pExt1, pExt2, Bool.false_and, Bool.true_and, Bool.not_true, Bool.not_false, cond_true, cond_false, dops_nil, dops_none, xval_call, v_mov, v_bin, v_len, v_ext, v_idxA, v_ld, v_st, v_app, v_appN, v_cvs, v_bs1, pBs1, v_slc, v_conv, v_fld, v_fldA, v_new, v_box, v_mks, v_copy, v_isnil, v_nilck, v_pick, ev, evs_nil, evs_cons, fr_get_cons, fr_put_nil, fr_put_cons, fr_put_some, fr_put_none, fr_keep_nil, fr_keep_cons, fr_has_nil, fr_has_cons, Option.bind_some, Option.map_some, xbin, ibin, xresult_eq, xress_nil, xress_tmp, resV, ex_some, if_true, if_false, ite_true, ite_false, reduceIte, reduceCtorEq, Nat.reduceEqDiff, Nat.reduceLT, Nat.reduceLeDiff, Int.reduceLT, Int.reduceLE, Nat.zero_add, Nat.reduceAdd, Bool.false_eq_true, decide_eq_true_eq, decide_eq_false_iff_not, true_implies, false_implies, and_true, true_and, hlt, decide_true]
    refine vote_ok v l f.length H _ hv (fun s hs => ⟨(hok s hs).1, by have := (hok s hs).2; omega⟩) hl (by omega) ?_
    intro H1 best hb1 hm x1
    have hbl : f.length < (f.map Prod.fst ++ List.replicate (r + 1) 0).length := by simp
    have o1 := Own.ext x1 ho
    have e3 := pIdx_one o1.1 .i64 (f.length : Int) f.length rfl hbl
    have w3 : IntKind.i64.wrap ((f.length : Int) + 1) = ((f.length + 1 : Nat) : Int) := by rw [wrI _ (by omega) (by omega)]; omega
    simp only [ofArgs, run_seq, run_block, run_ops, run_skip, run_exit, run_ret, thenQ_normal, thenQ_exit, thenQ_ret, blockQ_normal, blockQ_exit, blockQ_ret, retQ_ret, retQ_normal, ops_nil, ops_none, got_some, ops_wT, ops_wTn, ops_wF, ops_wFn, ops_wU, dops_wT, dops_wTn, dops_wF, dops_wFn, dops_wU, run_condT, run_condF, alt2_int, altB_bool, altI_int, altBB_bool, v_min, v_max, v_not, v_neg, optEv_none, optEv_some, isSome'_none, isSome'_some, pExt0, pExt1, pExt2, Bool.false_and, Bool.true_and, Bool.not_true, Bool.not_false, cond_true, cond_false, dops_nil, dops_none, xval_call, v_mov, v_bin, v_len, v_ext, v_idxA, v_ld, v_st, v_app, v_appN, v_cvs, v_bs1, pBs1, v_slc, v_conv, v_fld, v_fldA, v_new, v_box, v_mks, v_copy, v_isnil, v_nilck, v_pick, ev, evs_nil, evs_cons, fr_get_cons, fr_put_nil, fr_put_cons, fr_put_some, fr_put_none, fr_keep_nil, fr_keep_cons, fr_has_nil, fr_has_cons, Option.bind_some, Option.map_some, xbin, ibin, xresult_eq, xress_nil, xress_tmp, resV, ex_some, if_true, if_false, ite_true, ite_false, reduceIte, reduceCtorEq, Nat.reduceEqDiff, Nat.reduceLT, Nat.reduceLeDiff, Int.reduceLT, Int.reduceLE, Nat.zero_add, Nat.reduceAdd, Bool.false_eq_true, decide_eq_true_eq, decide_eq_false_iff_not, true_implies, false_implies, and_true, true_and, pExt0, pExt1, e3]
    refine OwnB.flip o1 hbl ?_
    intro H2 o2 s2
    have n2' := s2.n
    have b1 := hb.ext x1
    have hwE : ∀ b, inB w b → n2 ≤ b := fun b ⟨o, a, c, e⟩ => (ho.2 b o a c e).1
    have b2 : Bx H2 E _ := b1.same n2' (s2.get E b1.2 fun h => by have := hwE E h; omega)
    have hlen : (f.map Prod.fst).length = f.length := by simp
    have em : (f.map Prod.fst ++ List.replicate (r + 1) 0).set f.length (best : Int) = (f ++ [((best : Int), ((((l.map (byAt f.length)).count (best : Int) : Nat) : Int) == (l.length : Int)))]).map Prod.fst ++ List.replicate r 0 := by
      rw [List.set_append_right _ _ (by omega), hlen, Nat.sub_self, List.replicate_succ, List.set_cons_zero]
      simp
    rw [em] at o2
    have hg' := hg.snoc (best : Int) _ ⟨by omega, hm, rfl⟩
    have x12 : ∀ b, b < n2 → H2.get b = H.get b := fun b hb => (s2.get b (by have := x1.1; omega) fun h => by have := hwE b h; omega).trans (x1.2 b (by omega))
    have hcb : nT f ≤ 128 := by unfold nT; have := List.countP_le_length (p := fun p : Int × Bool => p.2) (l := f); omega
    have hc0 : 0 ≤ nT f := by unfold nT; omega
    have xx1 := x1.1
    have hv2 : SDs H2 v l := ⟨Sl.same hv.1 (by omega) fun b hb => x12 b (by have := hvb b hb; omega), fun s hs => Sl.same (hv.2 s hs) (by omega) fun b hb => x12 b (by have := hwb s hs b hb; omega)⟩
    cases hc : ((((l.map (byAt f.length)).count (best : Int) : Nat) : Int) == (l.length : Int)) with
    | false =>
      rw [hc] at hg' o2
      have hnt : nT (f ++ [((best : Int), false)]) = nT f := by unfold nT; simp
      simp only [ofArgs, run_seq, run_block, run_ops, run_skip, run_exit, run_ret, thenQ_normal, thenQ_exit, thenQ_ret, blockQ_normal, blockQ_exit, blockQ_ret, retQ_ret, retQ_normal, ops_nil, ops_none, got_some, ops_wT, ops_wTn, ops_wF, ops_wFn, ops_wU, dops_wT, dops_wTn, dops_wF, dops_wFn, dops_wU, run_condT, run_condF, alt2_int, altB_bool, altI_int, altBB_bool, v_min, v_max, v_not, v_neg, optEv_none, optEv_some, isSome'_none, isSome'_some, pExt0, pExt1, pExt2, Bool.false_and, Bool.true_and, Bool.not_true, Bool.not_false, cond_true, cond_false, dops_nil, dops_none, xval_call, v_mov, v_bin, v_len, v_ext, v_idxA, v_ld, v_st, v_app, v_appN, v_cvs, v_bs1, pBs1, v_slc, v_conv, v_fld, v_fldA, v_new, v_box, v_mks, v_copy, v_isnil, v_nilck, v_pick, ev, evs_nil, evs_cons, fr_get_cons, fr_put_nil, fr_put_cons, fr_put_some, fr_put_none, fr_keep_nil, fr_keep_cons, fr_has_nil, fr_has_cons, Option.bind_some, Option.map_some, xbin, ibin, xresult_eq, xress_nil, xress_tmp, resV, ex_some, if_true, if_false, ite_true, ite_false, reduceIte, reduceCtorEq, Nat.reduceEqDiff, Nat.reduceLT, Nat.reduceLeDiff, Int.reduceLT, Int.reduceLE, Nat.zero_add, Nat.reduceAdd, Bool.false_eq_true, decide_eq_true_eq, decide_eq_false_iff_not, true_implies, false_implies, and_true, true_and, w3]
      subst hL
      refine ih _ H2 _ Q hv2 hg' o2 (by omega) (by rw [hnt]; exact b2) (by simp; omega) (by simp) ?_
      intro H3 f3 v3 g3 l3 o3 n3 b3 k3
      exact hq H3 f3 v3 g3 l3 o3 (by omega) b3 fun b hb hbE => (k3 b hb hbE).trans (x12 b hb)
    | true =>
      rw [hc] at hg' o2
      have hnt : nT (f ++ [((best : Int), true)]) = nT f + 1 := by unfold nT; simp
      have e6 := b2.ld 6 _ rfl
      have w6 := wrI (nT f + 1) (by omega) (by omega)
      have st := b2.st 6 (by simp) (.int .i64 (nT f + 1)) rfl rfl
      have b4 := b2.set ([.int .i64 tr, .int .i64 nu, .slice none 0 0, .bool true, .int .i64 len, .int .i64 0, .int .i64 (nT f + 1)])
      simp only [List.set_cons_succ, List.set_cons_zero] at st
      simp only [ofArgs, run_seq, run_block, run_ops, run_skip, run_exit, run_ret, thenQ_normal, thenQ_exit, thenQ_ret, blockQ_normal, blockQ_exit, blockQ_ret, retQ_ret, retQ_normal, ops_nil, ops_none, got_some, ops_wT, ops_wTn, ops_wF, ops_wFn, ops_wU, dops_wT, dops_wTn, dops_wF, dops_wFn, dops_wU, run_condT, run_condF, alt2_int, altB_bool, altI_int, altBB_bool, v_min, v_max, v_not, v_neg, optEv_none, optEv_some, isSome'_none, isSome'_some, pExt0, pExt1, pExt2, Bool.false_and, Bool.true_and, Bool.not_true, Bool.not_false, cond_true, cond_false, dops_nil, dops_none, xval_call, v_mov, v_bin, v_len, v_ext, v_idxA, v_ld, v_st, v_app, v_appN, v_cvs, v_bs1, pBs1, v_slc, v_conv, v_fld, v_fldA, v_new, v_box, v_mks, v_copy, v_isnil, v_nilck, v_pick, ev, evs_nil, evs_cons, fr_get_cons, fr_put_nil, fr_put_cons, fr_put_some, fr_put_none, fr_keep_nil, fr_keep_cons, fr_has_nil, fr_has_cons, Option.bind_some, Option.map_some, xbin, ibin, xresult_eq, xress_nil, xress_tmp, resV, ex_some, if_true, if_false, ite_true, ite_false, reduceIte, reduceCtorEq, Nat.reduceEqDiff, Nat.reduceLT, Nat.reduceLeDiff, Int.reduceLT, Int.reduceLE, Nat.zero_add, Nat.reduceAdd, Bool.false_eq_true, decide_eq_true_eq, decide_eq_false_iff_not, true_implies, false_implies, and_true, true_and, fldAk, e6, w6, st, w3]
      subst hL
      have k4 : ∀ b, b ≠ E → (H2.set E ⟨[.int .i64 tr, .int .i64 nu, .slice none 0 0, .bool true, .int .i64 len, .int .i64 0, .int .i64 (nT f + 1)], 1, false, false⟩).get b = H2.get b := fun b hb => by rw [AH.get_set, if_neg hb]
      have n4 : (H2.set E ⟨[.int .i64 tr, .int .i64 nu, .slice none 0 0, .bool true, .int .i64 len, .int .i64 0, .int .i64 (nT f + 1)], 1, false, false⟩).n = H2.n := rfl
      generalize H2.set E ⟨[.int .i64 tr, .int .i64 nu, .slice none 0 0, .bool true, .int .i64 len, .int .i64 0, .int .i64 (nT f + 1)], 1, false, false⟩ = H4 at *
      have hv4 : SDs H4 v l := ⟨Sl.same hv2.1 (by omega) fun b hb => k4 b (by have := hvb b hb; omega), fun s hs => Sl.same (hv2.2 s hs) (by omega) fun b hb => k4 b (by have := hwb s hs b hb; omega)⟩
      refine ih _ H4 _ Q hv4 hg' (Own.same o2 (by omega) fun b hb => k4 b (by have := hwE b hb; omega)) (by omega) (by rw [hnt]; exact b4) (by simp; omega) (by simp) ?_
      intro H3 f3 v3 g3 l3 o3 n3 b3 k3
      exact hq H3 f3 v3 g3 l3 o3 (by omega) b3 fun b hb hbE => (k3 b hb hbE).trans ((k4 b hbE).trans (x12 b hb))
end Go.Proofs.Ytejedmocjdcdgaa.D

set_option linter.unusedSimpArgs false
set_option linter.unusedVariables false
namespace Go.Proofs.Ytejedmocjdcdgaa.D
open Go Go.Det

theorem joined1_ok (s : SD) (H : AH) (Q : Value → AH → Prop) (hq : ∀ H', HExt H H' → Q (.bool (!s.bad)) H') : Got (xc Try.prog tab 133 [.agg #[.int .i64 s.tr, .int .i64 s.nu, s.w, .bool s.bad]] H) Q := by
  refine got_call (res := [.tmp 2]) rfl ?_
  have v1 : vcells (.agg #[.int .i64 s.tr, .int .i64 s.nu, s.w, .bool s.bad]) = [.int .i64 s.tr, .int .i64 s.nu, s.w, .bool s.bad] := rfl
  have x1 := hext_push H ⟨[.int .i64 s.tr, .int .i64 s.nu, s.w, .bool s.bad], 1, false, false⟩
  have g1 : (H.push ⟨[.int .i64 s.tr, .int .i64 s.nu, s.w, .bool s.bad], 1, false, false⟩).get H.n = some ⟨[.int .i64 s.tr, .int .i64 s.nu, s.w, .bool s.bad], 1, false, false⟩ := by rw [AH.get_push, if_pos rfl]
  have l3 := bx4_3 g1
  simp only [ofArgs, run_seq, run_block, run_ops, run_skip, run_exit, run_ret, thenQ_normal, thenQ_exit, thenQ_ret, blockQ_normal, blockQ_exit, blockQ_ret, retQ_ret, retQ_normal, ops_nil, ops_none, got_some, ops_wT, ops_wTn, ops_wF, ops_wFn, ops_wU, dops_wT, dops_wTn, dops_wF, dops_wFn, dops_wU, run_condT, run_condF, alt2_int, altB_bool, altI_int, altBB_bool, v_min, v_max, v_not, v_neg, optEv_none, optEv_some, isSome'_none, isSome'_some, pExt0, pExt1, pExt2, Bool.false_and, Bool.true_and, Bool.not_true, Bool.not_false, cond_true, cond_false, dops_nil, dops_none, xval_call, v_mov, v_bin, v_len, v_ext, v_idxA, v_ld, v_st, v_app, v_appN, v_cvs, v_bs1, pBs1, v_slc, v_conv, v_fld, v_fldA, v_new, v_box, v_mks, v_copy, v_isnil, v_nilck, v_pick, ev, evs_nil, evs_cons, fr_get_cons, fr_put_nil, fr_put_cons, fr_put_some, fr_put_none, fr_keep_nil, fr_keep_cons, fr_has_nil, fr_has_cons, Option.bind_some, Option.map_some, xbin, ibin, xresult_eq, xress_nil, xress_tmp, resV, ex_some, if_true, if_false, ite_true, ite_false, reduceIte, reduceCtorEq, Nat.reduceEqDiff, Nat.reduceLT, Nat.reduceLeDiff, Int.reduceLT, Int.reduceLE, Nat.zero_add, Nat.reduceAdd, Bool.false_eq_true, decide_eq_true_eq, decide_eq_false_iff_not, true_implies, false_implies, and_true, true_and, v1, fldA3, l3]
  exact hq _ x1
theorem idxf_l0 (v : Value) (rest : List SD) : ∀ (pre : List SD) (H : AH) (i N : Int) (Q : XExit → Fr → AH → Prop), SDs H v (pre ++ rest) → pre.length + rest.length ≤ 1000 → i = (pre.length : Int) → N = ((pre ++ rest).length : Int) →
    ((∀ s ∈ rest, s.bad = true) → ∀ H', HExt H H' → Q (.exit 0) [(0, v), (1, .func (.func 133) #[] #[]), (7, .int .i64 N), (8, .int .i64 N), (9, .bool false)] H') →
    (∀ p1 s p2, rest = p1 ++ s :: p2 → s.bad = false → (∀ t ∈ p1, t.bad = true) → ∀ H', HExt H H' → Q .ret [(4, .int .i64 ((pre.length + p1.length : Nat) : Int))] H') →
    Run Try.prog tab (.loop xslices_IndexFunc_Sapi_SectorData_api_SectorData_l0) [(0, v), (1, .func (.func 133) #[] #[]), (7, .int .i64 N), (8, .int .i64 i)] H Q := by
  induction rest with
  | nil =>
    intro pre H i N Q hv hl hi hN hq1 hq2
    rw [run_loop]
    generalize hL : XCode.loop xslices_IndexFunc_Sapi_SectorData_api_SectorData_l0 = L
    have hiN : i = N := by simp at hN; omega
    subst hiN
    have hf : ¬ i < i := by omega
    simp only [xslices_IndexFunc_Sapi_SectorData_api_SectorData_l0, ofArgs, run_seq, run_block, run_ops, run_skip, run_exit, run_ret, thenQ_normal, thenQ_exit, thenQ_ret, blockQ_normal, blockQ_exit, blockQ_ret, retQ_ret, retQ_normal, ops_nil, ops_none, got_some, ops_wT, ops_wTn, ops_wF, ops_wFn, ops_wU, dops_wT, dops_wTn, dops_wF, dops_wFn, dops_wU, run_condT, run_condF, alt2_int, altB_bool, altI_int, altBB_bool, v_min, v_max, v_not, v_neg, optEv_none, optEv_some, isSome'_none, isSome'_some, pExt0, pExt1, pExt2, Bool.false_and, Bool.true_and, Bool.not_true, Bool.not_false, cond_true, cond_false, dops_nil, dops_none, xval_call, v_mov, v_bin, v_len, v_ext, v_idxA, v_ld, v_st, v_app, v_appN, v_cvs, v_bs1, pBs1, v_slc, v_conv, v_fld, v_fldA, v_new, v_box, v_mks, v_copy, v_isnil, v_nilck, v_pick, ev, evs_nil, evs_cons, fr_get_cons, fr_put_nil, fr_put_cons, fr_put_some, fr_put_none, fr_keep_nil, fr_keep_cons, fr_has_nil, fr_has_cons, Option.bind_some, Option.map_some, xbin, ibin, xresult_eq, xress_nil, xress_tmp, resV, ex_some, if_true, if_false, ite_true, ite_false, reduceIte, reduceCtorEq, Nat.reduceEqDiff, Nat.reduceLT, Nat.reduceLeDiff, Int.reduceLT, Int.reduceLE, Nat.zero_add, Nat.reduceAdd, Bool.false_eq_true, decide_eq_true_eq, decide_eq_false_iff_not, true_implies, false_implies, and_true, true_and, hf, decide_false]
    exact hq1 (fun s hs => by simp at hs) H (HExt.refl H)
  | cons s rest ih =>
    intro pre H i N Q hv hl hi hN hq1 hq2
    rw [run_loop]
    generalize hL : XCode.loop xslices_IndexFunc_Sapi_SectorData_api_SectorData_l0 = L
    simp only [List.length_cons] at hl
    have hlt : i < N := by simp at hN; omega
    have e1 := sds_idx hv i hi
    have e2 := sds_ld hv
    have w3 := wrI (i + 1) (by omega) (by omega)
    have ea : (#[] : Array Value).toList ++ [.agg #[.int .i64 s.tr, .int .i64 s.nu, s.w, .bool s.bad]] ++ (#[] : Array Value).toList = [.agg #[.int .i64 s.tr, .int .i64 s.nu, s.w, .bool s.bad]] := rfl
    simp only [xslices_IndexFunc_Sapi_SectorData_api_SectorData_l0, ofArgs, run_seq, run_block, run_ops, run_skip, run_exit, run_ret, thenQ_normal, thenQ_exit, thenQ_ret, blockQ_normal, blockQ_exit, blockQ_ret, retQ_ret, retQ_normal, ops_nil, ops_none, got_some, ops_wT, ops_wTn, ops_wF, ops_wFn, ops_wU, dops_wT, dops_wTn, dops_wF, dops_wFn, dops_wU, run_condT, run_condF, alt2_int, altB_bool, altI_int, altBB_bool, v_min, v_max, v_not, v_neg, optEv_none, optEv_some, isSome'_none, isSome'_some, pExt0, pExt1, pExt2, Bool.false_and, Bool.true_and, Bool.not_true, Bool.not_false, cond_true, cond_false, dops_nil, dops_none, xval_call, v_mov, v_bin, v_len, v_ext, v_idxA, v_ld, v_st, v_app, v_appN, v_cvs, v_bs1, pBs1, v_slc, v_conv, v_fld, v_fldA, v_new, v_box, v_mks, v_copy, v_isnil, v_nilck, v_pick, ev, evs_nil, evs_cons, fr_get_cons, fr_put_nil, fr_put_cons, fr_put_some, fr_put_none, fr_keep_nil, fr_keep_cons, fr_has_nil, fr_has_cons, Option.bind_some, Option.map_some, xbin, ibin, xresult_eq, xress_nil, xress_tmp, resV, ex_some, if_true, if_false, ite_true, ite_false, reduceIte, reduceCtorEq, Nat.reduceEqDiff, Nat.reduceLT, Nat.reduceLeDiff, Int.reduceLT, Int.reduceLE, Nat.zero_add, Nat.reduceAdd, Bool.false_eq_true, decide_eq_true_eq, decide_eq_false_iff_not, true_implies, false_implies, and_true, true_and, hlt, decide_true, e1, e2, v_callv, pCallV_func, ea]
    refine joined1_ok s H _ ?_
    intro H1 x1
    cases hb : s.bad with
    | false =>
      have hq := hq2 [] s rest rfl hb (fun t ht => by simp at ht) H1 x1
      simp only [ofArgs, run_seq, run_block, run_ops, run_skip, run_exit, run_ret, thenQ_normal, thenQ_exit, thenQ_ret, blockQ_normal, blockQ_exit, blockQ_ret, retQ_ret, retQ_normal, ops_nil, ops_none, got_some, ops_wT, ops_wTn, ops_wF, ops_wFn, ops_wU, dops_wT, dops_wTn, dops_wF, dops_wFn, dops_wU, run_condT, run_condF, alt2_int, altB_bool, altI_int, altBB_bool, v_min, v_max, v_not, v_neg, optEv_none, optEv_some, isSome'_none, isSome'_some, pExt0, pExt1, pExt2, Bool.false_and, Bool.true_and, Bool.not_true, Bool.not_false, cond_true, cond_false, dops_nil, dops_none, xval_call, v_mov, v_bin, v_len, v_ext, v_idxA, v_ld, v_st, v_app, v_appN, v_cvs, v_bs1, pBs1, v_slc, v_conv, v_fld, v_fldA, v_new, v_box, v_mks, v_copy, v_isnil, v_nilck, v_pick, ev, evs_nil, evs_cons, fr_get_cons, fr_put_nil, fr_put_cons, fr_put_some, fr_put_none, fr_keep_nil, fr_keep_cons, fr_has_nil, fr_has_cons, Option.bind_some, Option.map_some, xbin, ibin, xresult_eq, xress_nil, xress_tmp, resV, ex_some, if_true, if_false, ite_true, ite_false, reduceIte, reduceCtorEq, Nat.reduceEqDiff, Nat.reduceLT, Nat.reduceLeDiff, Int.reduceLT, Int.reduceLE, Nat.zero_add, Nat.reduceAdd, Bool.false_eq_true, decide_eq_true_eq, decide_eq_false_iff_not, true_implies, false_implies, and_true, true_and]
      rw [List.length_nil, Nat.add_zero, ← hi] at hq
      exact hq
    | true =>
      simp only [ofArgs, run_seq, run_block, run_ops, run_skip, run_exit, run_ret, thenQ_normal, thenQ_exit, thenQ_ret, blockQ_normal, blockQ_exit, blockQ_ret, retQ_ret, retQ_normal, ops_nil, ops_none, got_some, ops_wT, ops_wTn, ops_wF, ops_wFn, ops_wU, dops_wT, dops_wTn, dops_wF, dops_wFn, dops_wU, run_condT, run_condF, alt2_int, altB_bool, altI_int, altBB_bool, v_min, v_max, v_not, v_neg, optEv_none, optEv_some, isSome'_none, isSome'_some, pExt0, pExt1, pExt2, Bool.false_and, Bool.true_and, Bool.not_true, Bool.not_false, cond_true, cond_false, dops_nil, dops_none, xval_call, v_mov, v_bin, v_len, v_ext, v_idxA, v_ld, v_st, v_app, v_appN, v_cvs, v_bs1, pBs1, v_slc, v_conv, v_fld, v_fldA, v_new, v_box, v_mks, v_copy, v_isnil, v_nilck, v_pick, ev, evs_nil, evs_cons, fr_get_cons, fr_put_nil, fr_put_cons, fr_put_some, fr_put_none, fr_keep_nil, fr_keep_cons, fr_has_nil, fr_has_cons, Option.bind_some, Option.map_some, xbin, ibin, xresult_eq, xress_nil, xress_tmp, resV, ex_some, if_true, if_false, ite_true, ite_false, reduceIte, reduceCtorEq, Nat.reduceEqDiff, Nat.reduceLT, Nat.reduceLeDiff, Int.reduceLT, Int.reduceLE, Nat.zero_add, Nat.reduceAdd, Bool.false_eq_true, decide_eq_true_eq, decide_eq_false_iff_not, true_implies, false_implies, and_true, true_and, w3]
      subst hL
      refine ih (pre ++ [s]) H1 (i + 1) N Q (by rw [← List.append_cons]; exact hv.ext x1) (by simp; omega) (by simp; omega) (by simpa using hN) (fun h H2 x2 => hq1 (fun t ht => ?_) H2 (x1.trans x2)) (fun p1 t p2 h h2 h3 H2 x2 => ?_)
      · rcases List.mem_cons.1 ht with h' | h'
        · rw [h']; exact hb
        · exact h t h'
      · have := hq2 (s :: p1) t p2 (by rw [h]; rfl) h2 (fun y hy => by
          rcases List.mem_cons.1 hy with h' | h'
          · rw [h']; exact hb
          · exact h3 y h') H2 (x1.trans x2)
        have e : (pre ++ [s]).length + p1.length = pre.length + (s :: p1).length := by simp; omega
        rw [e]
        exact this
theorem idxf_ok (v : Value) (l : List SD) (H : AH) (Q : Value → AH → Prop) (hv : SDs H v l) (hl : l.length ≤ 1000)
    (hq1 : (∀ s ∈ l, s.bad = true) → ∀ H', HExt H H' → Q (.int .i64 (-1)) H')
    (hq2 : ∀ p1 s p2, l = p1 ++ s :: p2 → s.bad = false → (∀ t ∈ p1, t.bad = true) → ∀ H', HExt H H' → Q (.int .i64 (p1.length : Int)) H') :
    Got (xc Try.prog tab 132 [v, .func (.func 133) #[] #[]] H) Q := by
  refine got_call (res := [.tmp 4]) rfl ?_
  have e0 := hv.1.len_ok
  simp only [ofArgs, run_seq, run_block, run_ops, run_skip, run_exit, run_ret, thenQ_normal, thenQ_exit, thenQ_ret, blockQ_normal, blockQ_exit, blockQ_ret, retQ_ret, retQ_normal, ops_nil, ops_none, got_some, ops_wT, ops_wTn, ops_wF, ops_wFn, ops_wU, dops_wT, dops_wTn, dops_wF, dops_wFn, dops_wU, run_condT, run_condF, alt2_int, altB_bool, altI_int, altBB_bool, v_min, v_max, v_not, v_neg, optEv_none, optEv_some, isSome'_none, isSome'_some, pExt0, pExt1, pExt2, Bool.false_and, Bool.true_and, Bool.not_true, Bool.not_false, cond_true, cond_false, dops_nil, dops_none, xval_call, v_mov, v_bin, v_len, v_ext, v_idxA, v_ld, v_st, v_app, v_appN, v_cvs, v_bs1, pBs1, v_slc, v_conv, v_fld, v_fldA, v_new, v_box, v_mks, v_copy, v_isnil, v_nilck, v_pick, ev, evs_nil, evs_cons, fr_get_cons, fr_put_nil, fr_put_cons, fr_put_some, fr_put_none, fr_keep_nil, fr_keep_cons, fr_has_nil, fr_has_cons, Option.bind_some, Option.map_some, xbin, ibin, xresult_eq, xress_nil, xress_tmp, resV, ex_some, if_true, if_false, ite_true, ite_false, reduceIte, reduceCtorEq, Nat.reduceEqDiff, Nat.reduceLT, Nat.reduceLeDiff, Int.reduceLT, Int.reduceLE, Nat.zero_add, Nat.reduceAdd, Bool.false_eq_true, decide_eq_true_eq, decide_eq_false_iff_not, true_implies, false_implies, and_true, true_and, e0]
  refine idxf_l0 v l [] H 0 _ _ (by simpa using hv) (by simp; omega) (by simp) (by simp) ?_ ?_
  · intro h H' x
    simp only [ofArgs, run_seq, run_block, run_ops, run_skip, run_exit, run_ret, thenQ_normal, thenQ_exit, thenQ_ret, blockQ_normal, blockQ_exit, blockQ_ret, retQ_ret, retQ_normal, ops_nil, ops_none, got_some, ops_wT, ops_wTn, ops_wF, ops_wFn, ops_wU, dops_wT, dops_wTn, dops_wF, dops_wFn, dops_wU, run_condT, run_condF, alt2_int, altB_bool, altI_int, altBB_bool, v_min, v_max, v_not, v_neg, optEv_none, optEv_some, isSome'_none, isSome'_some, pExt0, pExt1, pExt2, Bool.false_and, Bool.true_and, Bool.not_true, Bool.not_false, cond_true, cond_false, dops_nil, dops_none, xval_call, v_mov, v_bin, v_len, v_ext, v_idxA, v_ld, v_st, v_app, v_appN, v_cvs, v_bs1, pBs1, v_slc, v_conv, v_fld, v_fldA, v_new, v_box, v_mks, v_copy, v_isnil, v_nilck, v_pick, ev, evs_nil, evs_cons, fr_get_cons, fr_put_nil, fr_put_cons, fr_put_some, fr_put_none, fr_keep_nil, fr_keep_cons, fr_has_nil, fr_has_cons, Option.bind_some, Option.map_some, xbin, ibin, xresult_eq, xress_nil, xress_tmp, resV, ex_some, if_true, if_false, ite_true, ite_false, reduceIte, reduceCtorEq, Nat.reduceEqDiff, Nat.reduceLT, Nat.reduceLeDiff, Int.reduceLT, Int.reduceLE, Nat.zero_add, Nat.reduceAdd, Bool.false_eq_true, decide_eq_true_eq, decide_eq_false_iff_not, true_implies, false_implies, and_true, true_and]
    exact hq1 h H' x
  · intro p1 s p2 h h2 h3 H' x
    have := hq2 p1 s p2 h h2 h3 H' x
    simp only [ofArgs, run_seq, run_block, run_ops, run_skip, run_exit, run_ret, thenQ_normal, thenQ_exit, thenQ_ret, blockQ_normal, blockQ_exit, blockQ_ret, retQ_ret, retQ_normal, ops_nil, ops_none, got_some, ops_wT, ops_wTn, ops_wF, ops_wFn, ops_wU, dops_wT, dops_wTn, dops_wF, dops_wFn, dops_wU, run_condT, run_condF, alt2_int, altB_bool, altI_int, altBB_bool, v_min, v_max, v_not, v_neg, optEv_none, optEv_some, isSome'_none, isSome'_some, pExt0, pExt1, pExt2, Bool.false_and, Bool.true_and, Bool.not_true, Bool.not_false, cond_true, cond_false, dops_nil, dops_none, xval_call, v_mov, v_bin, v_len, v_ext, v_idxA, v_ld, v_st, v_app, v_appN, v_cvs, v_bs1, pBs1, v_slc, v_conv, v_fld, v_fldA, v_new, v_box, v_mks, v_copy, v_isnil, v_nilck, v_pick, ev, evs_nil, evs_cons, fr_get_cons, fr_put_nil, fr_put_cons, fr_put_some, fr_put_none, fr_keep_nil, fr_keep_cons, fr_has_nil, fr_has_cons, Option.bind_some, Option.map_some, xbin, ibin, xresult_eq, xress_nil, xress_tmp, resV, ex_some, if_true, if_false, ite_true, ite_false, reduceIte, reduceCtorEq, Nat.reduceEqDiff, Nat.reduceLT, Nat.reduceLeDiff, Int.reduceLT, Int.reduceLE, Nat.zero_add, Nat.reduceAdd, Bool.false_eq_true, decide_eq_true_eq, decide_eq_false_iff_not, true_implies, false_implies, and_true, true_and]
    simpa using this
theorem joined_l1 (n0 n2 E : Nat) (v p2 w : Value) (bs : List Int) (hbs : bs.length ≤ 1000) (cs0 : List Value) (last : Value) (rest : List SD) (hE : n0 ≤ E) (hEw : ¬ inB w E) : ∀ (pre : List SD) (H : AH) (i N : Int) (m : Int) (Q : XExit → Fr → AH → Prop), SDs H v (pre ++ rest) → (∀ b, inB v b → b < n0) → (∀ s ∈ pre ++ rest, ∀ b, inB s.w b → b < n0) → (∀ s ∈ rest, s.bs.length ≤ 1000) → Byts H w bs → Bx H E (cs0 ++ [.int .i64 m, last]) → cs0.length = 5 → 0 ≤ m → m ≤ (pre.length : Int) → pre.length + rest.length ≤ 1000 → i = (pre.length : Int) → N = ((pre ++ rest).length : Int) →
    (∀ H', Byts H' w bs → Bx H' E (cs0 ++ [.int .i64 (m + ((rest.countP fun s => decide (s.bs = bs) : Nat) : Int)), last]) → H.n ≤ H'.n → (∀ b, b < H.n → b ≠ E → H'.get b = H.get b) → Q (.exit 2) [(2, p2), (3, .pointer (some ⟨E, 0, none⟩)), (4, w), (60, v), (61, .int .i64 N), (62, .int .i64 N), (63, .bool false)] H') →
    Run Try.prog tab (.loop xmend_joined_l1) [(2, p2), (3, .pointer (some ⟨E, 0, none⟩)), (4, w), (60, v), (61, .int .i64 N), (62, .int .i64 i)] H Q := by
  induction rest with
  | nil =>
    intro pre H i N m Q hv hvb hwb hok hw hb hc hm hm2 hl hi hN hq
    rw [run_loop]
    generalize hL : XCode.loop xmend_joined_l1 = L
    have hiN : i = N := by simp at hN; omega
    subst hiN
    have hf : ¬ i < i := by omega
    simp only [xmend_joined_l1, ofArgs, run_seq, run_block, run_ops, run_skip, run_exit, run_ret, thenQ_normal, thenQ_exit, thenQ_ret, blockQ_normal, blockQ_exit, blockQ_ret, retQ_ret, retQ_normal, ops_nil, ops_none, got_some, ops_wT, ops_wTn, ops_wF, ops_wFn, ops_wU, dops_wT, dops_wTn, dops_wF, dops_wFn, dops_wU, run_condT, run_condF, alt2_int, altB_bool, altI_int, altBB_bool, v_min, v_max, v_not, v_neg, optEv_none, optEv_some, isSome'_none, isSome'_some, pExt0, pExt1, pExt2, Bool.false_and, Bool.true_and, Bool.not_true, Bool.not_false, cond_true, cond_false, dops_nil, dops_none, xval_call, v_mov, v_bin, v_len, v_ext, v_idxA, v_ld, v_st, v_app, v_appN, v_cvs, v_bs1, pBs1, v_slc, v_conv, v_fld, v_fldA, v_new, v_box, v_mks, v_copy, v_isnil, v_nilck, v_pick, ev, evs_nil, evs_cons, fr_get_cons, fr_put_nil, fr_put_cons, fr_put_some, fr_put_none, fr_keep_nil, fr_keep_cons, fr_has_nil, fr_has_cons, Option.bind_some, Option.map_some, xbin, ibin, xresult_eq, xress_nil, xress_tmp, resV, ex_some, if_true, if_false, ite_true, ite_false, reduceIte, reduceCtorEq, Nat.reduceEqDiff, Nat.reduceLT, Nat.reduceLeDiff, Int.reduceLT, Int.reduceLE, Nat.zero_add, Nat.reduceAdd, Bool.false_eq_true, decide_eq_true_eq, decide_eq_false_iff_not, true_implies, false_implies, and_true, true_and, hf, decide_false]
    exact hq H hw (by simpa using hb) (Nat.le_refl _) (fun _ _ _ => rfl)
  | cons s rest ih =>
    intro pre H i N m Q hv hvb hwb hok hw hb hc hm hm2 hl hi hN hq
    rw [run_loop]
    generalize hL : XCode.loop xmend_joined_l1 = L
    simp only [List.length_cons] at hl
    have hlt : i < N := by simp at hN; omega
    have e1 := sds_idx hv i hi
    have e2 := sds_ld hv
    have hbs' := hv.2 s (by simp)
    obtain ⟨o1, o2⟩ := slice_one hbs'
    have st := bxS_st H s o1
    have hx := bxS_ext H s
    have l2 := bx4_2 (bxS_get H s)
    have hsl := hok s (by simp)
    have r1 := equalB_xc s.bs bs s.w w (bxS H s) (Sl.ext hx hbs') (Sl.ext hx hw) (by omega) (by omega)
    have w3 := wrI (i + 1) (by omega) (by omega)
    have hv1 := hv.ext hx
    have b1 := hb.ext hx
    have hw1 : Byts (bxS H s) w bs := Sl.ext hx hw
    by_cases he : s.bs = bs
    · have e5 := b1.ld 5 (.int .i64 m) (by rw [List.getElem?_append_right (by omega), hc]; rfl)
      have w6 := wrI (m + 1) (by omega) (by omega)
      have stE := b1.st 5 (by simp; omega) (.int .i64 (m + 1)) rfl rfl
      have hset : (cs0 ++ [Value.int .i64 m, last]).set 5 (.int .i64 (m + 1)) = cs0 ++ [.int .i64 (m + 1), last] := by
        rw [List.set_append_right _ _ (by omega), hc]; rfl
      rw [hset] at stE
      have b2 := b1.set (cs0 ++ [.int .i64 (m + 1), last])
      have k2 : ∀ b, b ≠ E → ((bxS H s).set E ⟨cs0 ++ [.int .i64 (m + 1), last], 1, false, false⟩).get b = (bxS H s).get b := fun b hb => by rw [AH.get_set, if_neg hb]
      have n2 : ((bxS H s).set E ⟨cs0 ++ [.int .i64 (m + 1), last], 1, false, false⟩).n = (bxS H s).n := rfl
      have nn := bxS_n H s
      simp only [xmend_joined_l1, ofArgs, run_seq, run_block, run_ops, run_skip, run_exit, run_ret, thenQ_normal, thenQ_exit, thenQ_ret, blockQ_normal, blockQ_exit, blockQ_ret, retQ_ret, retQ_normal, ops_nil, ops_none, got_some, ops_wT, ops_wTn, ops_wF, ops_wFn, ops_wU, dops_wT, dops_wTn, dops_wF, dops_wFn, dops_wU, run_condT, run_condF, alt2_int, altB_bool, altI_int, altBB_bool, v_min, v_max, v_not, v_neg, optEv_none, optEv_some, isSome'_none, isSome'_some, pExt0, pExt1, pExt2, Bool.false_and, Bool.true_and, Bool.not_true, Bool.not_false, cond_true, cond_false, dops_nil, dops_none, xval_call, v_mov, v_bin, v_len, v_ext, v_idxA, v_ld, v_st, v_app, v_appN, v_cvs, v_bs1, pBs1, v_slc, v_conv, v_fld, v_fldA, v_new, v_box, v_mks, v_copy, v_isnil, v_nilck, v_pick, ev, evs_nil, evs_cons, fr_get_cons, fr_put_nil, fr_put_cons, fr_put_some, fr_put_none, fr_keep_nil, fr_keep_cons, fr_has_nil, fr_has_cons, Option.bind_some, Option.map_some, xbin, ibin, xresult_eq, xress_nil, xress_tmp, resV, ex_some, if_true, if_false, ite_true, ite_false, reduceIte, reduceCtorEq, Nat.reduceEqDiff, Nat.reduceLT, Nat.reduceLeDiff, Int.reduceLT, Int.reduceLE, Nat.zero_add, Nat.reduceAdd, Bool.false_eq_true, decide_eq_true_eq, decide_eq_false_iff_not, true_implies, false_implies, and_true, true_and, hlt, decide_true, e1, e2, st, fldA2, l2, r1, he, fldAk, e5, w6, stE, w3]
      generalize (bxS H s).set E ⟨cs0 ++ [.int .i64 (m + 1), last], 1, false, false⟩ = H2 at *
      subst hL
      have hv2 : SDs H2 v (pre ++ s :: rest) := ⟨Sl.same hv1.1 (by omega) fun b hb => k2 b (by have := hvb b hb; omega), fun t ht => Sl.same (hv1.2 t ht) (by omega) fun b hb => k2 b (by have := hwb t ht b hb; omega)⟩
      refine ih (pre ++ [s]) H2 (i + 1) N (m + 1) Q (by rw [← List.append_cons]; exact hv2) hvb (by rw [← List.append_cons]; exact hwb) (fun y hy => hok y (by simp [hy])) (Sl.same hw1 (by omega) fun b hb => k2 b (fun e => hEw (e ▸ hb))) b2 hc (by omega) (by simp; omega) (by simp; omega) (by simp; omega) (by simpa using hN) ?_
      intro H3 hw3 b3 n3 k3
      refine hq H3 hw3 ?_ (by omega) fun b hb hbE => (k3 b (by omega) hbE).trans ((k2 b hbE).trans (hx.2 b hb))
      have ec : (s :: rest).countP (fun s => decide (s.bs = bs)) = rest.countP (fun s => decide (s.bs = bs)) + 1 := by
        rw [List.countP_cons_of_pos (by simpa using he)]
      rw [ec]
      have : m + 1 + ((rest.countP (fun s => decide (s.bs = bs)) : Nat) : Int) = m + ((rest.countP (fun s => decide (s.bs = bs)) + 1 : Nat) : Int) := by omega
      rw [← this]
      exact b3
    · have nn := bxS_n H s
      simp only [xmend_joined_l1, ofArgs, run_seq, run_block, run_ops, run_skip, run_exit, run_ret, thenQ_normal, thenQ_exit, thenQ_ret, blockQ_normal, blockQ_exit, blockQ_ret, retQ_ret, retQ_normal, ops_nil, ops_none, got_some, ops_wT, ops_wTn, ops_wF, ops_wFn, ops_wU, dops_wT, dops_wTn, dops_wF, dops_wFn, dops_wU, run_condT, run_condF, alt2_int, altB_bool, altI_int, altBB_bool, v_min, v_max, v_not, v_neg, optEv_none, optEv_some, isSome'_none, isSome'_some, pExt0, pExt1, pExt2, Bool.false_and, Bool.true_and, Bool.not_true, Bool.not_false, cond_true, cond_false, dops_nil, dops_none, xval_call, v_mov, v_bin, v_len, v_ext, v_idxA, v_ld, v_st, v_app, v_appN, v_cvs, v_bs1, pBs1, v_slc, v_conv, v_fld, v_fldA, v_new, v_box, v_mks, v_copy, v_isnil, v_nilck, v_pick, ev, evs_nil, evs_cons, fr_get_cons, fr_put_nil, fr_put_cons, fr_put_some, fr_put_none, fr_keep_nil, fr_keep_cons, fr_has_nil, fr_has_cons, Option.bind_some, Option.map_some, xbin, ibin, xresult_eq, xress_nil, xress_tmp, resV, ex_some, if_true, if_false, ite_true, ite_false, reduceIte, reduceCtorEq, Nat.reduceEqDiff, Nat.reduceLT, Nat.reduceLeDiff, Int.reduceLT, Int.reduceLE, Nat.zero_add, Nat.reduceAdd, Bool.false_eq_true, decide_eq_true_eq, decide_eq_false_iff_not, true_implies, false_implies, and_true, true_and, hlt, decide_true, e1, e2, st, fldA2, l2, r1, he, decide_false, w3]
      subst hL
      refine ih (pre ++ [s]) _ (i + 1) N m Q (by rw [← List.append_cons]; exact hv1) hvb (by rw [← List.append_cons]; exact hwb) (fun y hy => hok y (by simp [hy])) hw1 b1 hc hm (by simp; omega) (by simp; omega) (by simp; omega) (by simpa using hN) ?_
      intro H3 hw3 b3 n3 k3
      refine hq H3 hw3 ?_ (by omega) fun b hb hbE => (k3 b (by omega) hbE).trans (hx.2 b hb)
      have ec : (s :: rest).countP (fun s => decide (s.bs = bs)) = rest.countP (fun s => decide (s.bs = bs)) := by
        rw [List.countP_cons_of_neg (by simpa using he)]
      rw [ec]
      exact b3
end Go.Proofs.Ytejedmocjdcdgaa.D

set_option linter.unusedSimpArgs false
set_option linter.unusedVariables false
namespace Go.Proofs.Ytejedmocjdcdgaa.D
open Go Go.Det

/-- structs that are built of two parts, of three parts -/
def pB2' (o1 n1 o2 n2 : Nat) (zs : List Value) (u w : Value) (H : AH) : Option (Value × AH) := (xfill [(0, u), (1, w)] [(o1, n1, .tmp 0), (o2, n2, .tmp 1)] zs).map fun cs => (.agg cs.toArray, H)
theorem v_bb2 {P : Program} {T : XTab} (fr : Fr) (H : AH) (dd : Option Nat) (zs : List Value) (o1 n1 o2 n2 : Nat) (x y : Operand) : xval P (xc P T) ⟨dd, .build zs [(o1, n1, x), (o2, n2, y)], none⟩ fr H = (ev fr x).bind fun u => (ev fr y).bind fun w => pB2' o1 n1 o2 n2 zs u w H := by
  rw [xval_op dd _ fr H rfl, e_build]
  unfold pB2'
  cases hx : ev fr x with
  | none => simp only [xfill, hx]; rfl
  | some u =>
    cases hy : ev fr y with
    | none =>
      simp only [xfill, hx, hy, Option.bind_some, Option.bind_none]
      cases (vcells u).length.beq n1 && (o1 + n1).ble zs.length && (vcells u).all one <;> rfl
    | some w =>
      have e0 : ev [(0, u), (1, w)] (.tmp 0) = some u := rfl
      have e1 : ev [(0, u), (1, w)] (.tmp 1) = some w := rfl
      simp only [xfill, hx, hy, e0, e1, Option.bind_some]
def pB3' (o1 n1 o2 n2 o3 n3 : Nat) (zs : List Value) (u w t : Value) (H : AH) : Option (Value × AH) := (xfill [(0, u), (1, w), (2, t)] [(o1, n1, .tmp 0), (o2, n2, .tmp 1), (o3, n3, .tmp 2)] zs).map fun cs => (.agg cs.toArray, H)
theorem v_bb3 {P : Program} {T : XTab} (fr : Fr) (H : AH) (dd : Option Nat) (zs : List Value) (o1 n1 o2 n2 o3 n3 : Nat) (x y z : Operand) : xval P (xc P T) ⟨dd, .build zs [(o1, n1, x), (o2, n2, y), (o3, n3, z)], none⟩ fr H = (ev fr x).bind fun u => (ev fr y).bind fun w => (ev fr z).bind fun t => pB3' o1 n1 o2 n2 o3 n3 zs u w t H := by
  rw [xval_op dd _ fr H rfl, e_build]
  unfold pB3'
  cases hx : ev fr x with
  | none => simp only [xfill, hx]; rfl
  | some u =>
    cases hy : ev fr y with
    | none =>
      simp only [xfill, hx, hy, Option.bind_some, Option.bind_none]
      cases (vcells u).length.beq n1 && (o1 + n1).ble zs.length && (vcells u).all one <;> rfl
    | some w =>
      cases hz : ev fr z with
      | none =>
        simp only [xfill, hx, hy, hz, Option.bind_some, Option.bind_none]
        cases (vcells u).length.beq n1 && (o1 + n1).ble zs.length && (vcells u).all one
        · rfl
        · cases (vcells w).length.beq n2 && (o2 + n2).ble (splice zs o1 (vcells u)).length && (vcells w).all one <;> rfl
      | some t =>
        have e0 : ev [(0, u), (1, w), (2, t)] (.tmp 0) = some u := rfl
        have e1 : ev [(0, u), (1, w), (2, t)] (.tmp 1) = some w := rfl
        have e2 : ev [(0, u), (1, w), (2, t)] (.tmp 2) = some t := rfl
        simp only [xfill, hx, hy, hz, e0, e1, e2, Option.bind_some]
theorem pB3_sd (a b : Int) (t : Bool) (H : AH) : pB3' 0 1 1 1 3 1 [.int .i64 0, .int .i64 0, .slice none 0 0, .bool false] (.int .i64 a) (.int .i64 b) (.bool t) H = some (.agg #[.int .i64 a, .int .i64 b, .slice none 0 0, .bool t], H) := rfl
theorem pB2_rs (a b n : Int) (t : Bool) (H : AH) : pB2' 0 4 4 1 [.int .i64 0, .int .i64 0, .slice none 0 0, .bool false, .int .i64 0, .int .i64 0, .int .i64 0] (.agg #[.int .i64 a, .int .i64 b, .slice none 0 0, .bool t]) (.int .i64 n) H = some (.agg #[.int .i64 a, .int .i64 b, .slice none 0 0, .bool t, .int .i64 n, .int .i64 0, .int .i64 0], H) := rfl
end Go.Proofs.Ytejedmocjdcdgaa.D

set_option linter.unusedSimpArgs false
set_option linter.unusedVariables false
namespace Go.Proofs.Ytejedmocjdcdgaa.D
open Go Go.Det

set_option maxHeartbeats 8000000 in
theorem joined_ok (v : Value) (s0 : SD) (l0 : List SD) (H : AH) (Q : Value → AH → Prop) (hv : SDs H v (s0 :: l0)) (hok : ∀ s ∈ s0 :: l0, B8 s.bs ∧ s.bs.length = 128) (hl : (s0 :: l0).length ≤ 1000)
    (hq : ∀ H' w f bs bad, HExt H H' → OwnB H.n H' w bs → GoodF (s0 :: l0) f → f.length = 128 → (((∀ s ∈ s0 :: l0, s.bad = true) ∧ bad = true ∧ bs = f.map Prod.fst) ∨ (∃ p1 s p2, s0 :: l0 = p1 ++ s :: p2 ∧ s.bad = false ∧ (∀ t ∈ p1, t.bad = true) ∧ bad = false ∧ bs = s.bs)) → Q (.agg #[.int .i64 s0.tr, .int .i64 s0.nu, w, .bool bad, .int .i64 ((s0 :: l0).length : Int), .int .i64 (((s0 :: l0).countP fun s => decide (s.bs = bs) : Nat) : Int), .int .i64 (nT f)]) H') :
    Got (xc Try.prog tab 102 [v] H) Q := by
  refine got_call (res := [.cell 2 (some 7)]) rfl ?_
  have x1 := hext_push H ⟨[.int .i64 0, .int .i64 0, .slice none 0 0, .bool false, .int .i64 0, .int .i64 0, .int .i64 0], 1, false, false⟩
  have n1 : (H.push ⟨[.int .i64 0, .int .i64 0, .slice none 0 0, .bool false, .int .i64 0, .int .i64 0, .int .i64 0], 1, false, false⟩).n = H.n + 1 := rfl
  have bR : Bx (H.push ⟨[.int .i64 0, .int .i64 0, .slice none 0 0, .bool false, .int .i64 0, .int .i64 0, .int .i64 0], 1, false, false⟩) H.n [.int .i64 0, .int .i64 0, .slice none 0 0, .bool false, .int .i64 0, .int .i64 0, .int .i64 0] := ⟨by rw [AH.get_push, if_pos rfl], Nat.lt_succ_self _⟩
  generalize hT : ((.seq (.dops [.mk ⟨some 11, .mov (.tmp 0), none⟩ [0] 0 [], .mk ⟨some 12, .idxA 4 (.tmp 11) (.const (.int .i64 0)), none⟩ [11] 0 [], .mk ⟨some 13, .fldA 0 (.tmp 12), none⟩ [12] 0 [], .mk ⟨some 14, .ld none (.tmp 13), none⟩ [13] 1 [13], .mk ⟨some 15, .mov (.tmp 0), none⟩ [0] 0 [], .mk ⟨some 16, .idxA 4 (.tmp 15) (.const (.int .i64 0)), none⟩ [15] 0 [], .mk ⟨some 17, .fldA 1 (.tmp 16), none⟩ [16] 0 [], .mk ⟨some 18, .ld none (.tmp 17), none⟩ [17] 1 [13], .mk ⟨some 19, .build [.int .i64 0, .int .i64 0, .slice none 0 0, .bool false] [(0, 1, .tmp 14), (1, 1, .tmp 18), (3, 1, .const (.bool true))], none⟩ [14, 18] 0 [], .mk ⟨some 20, .mov (.tmp 0), none⟩ [0] 0 [], .mk ⟨some 21, .len (.tmp 20), none⟩ [20] 0 [], .mk ⟨some 22, .build [.int .i64 0, .int .i64 0, .slice none 0 0, .bool false, .int .i64 0, .int .i64 0, .int .i64 0] [(0, 4, .tmp 19), (4, 1, .tmp 21)], none⟩ [19, 21] 0 [], .mk ⟨some 3, .new 94 1 [.int .i64 0, .int .i64 0, .slice none 0 0, .bool false, .int .i64 0, .int .i64 0, .int .i64 0], none⟩ [] 3 [], .mk ⟨none, .st 7 (.tmp 3) (.tmp 22), none⟩ [3, 22] 2 []] [0, 2, 3]) (.seq (.ops [⟨some 23, .mks 5 1 1 [.int .u8 0] (.const (.int .i64 128)) (.const (.int .i64 128)), none⟩, ⟨some 4, .mov (.tmp 23), none⟩] [0, 2, 3, 4]) (.seq (.seq (.ops [⟨some 24, .mov (.tmp 4), none⟩, ⟨some 25, .len (.tmp 24), none⟩, ⟨some 26, .mov (.const (.int .i64 0)), none⟩] [0, 2, 3, 4, 25, 26]) (.block 0 (.loop xmend_joined_l0))) (.seq (.seq (.ops [⟨some 45, .mov (.tmp 0), none⟩, ⟨some 46, .call 132 [.tmp 45, .func 133], none⟩, ⟨some 8, .mov (.tmp 46), none⟩] [0, 2, 3, 4, 8]) (.seq (.ops [⟨some 47, .mov (.tmp 8), none⟩, ⟨some 48, .bin .geq (.tmp 47) (.const (.int .i64 0)), none⟩] [0, 2, 3, 4, 8, 48]) (.cond (.tmp 48) (.ops [⟨some 49, .mov (.tmp 0), none⟩, ⟨some 50, .mov (.tmp 8), none⟩, ⟨some 51, .idxA 4 (.tmp 49) (.tmp 50), none⟩, ⟨some 52, .fldA 2 (.tmp 51), none⟩, ⟨some 53, .ld none (.tmp 52), none⟩, ⟨some 54, .call 36 [.tmp 53], none⟩, ⟨some 4, .mov (.tmp 54), none⟩, ⟨some 55, .fldA 0 (.tmp 3), none⟩, ⟨some 56, .fldA 3 (.tmp 55), none⟩, ⟨none, .st 1 (.tmp 56) (.const (.bool false)), none⟩] [0, 2, 3, 4]) .skip))) (.seq (.ops [⟨some 57, .mov (.tmp 4), none⟩, ⟨some 58, .fldA 0 (.tmp 3), none⟩, ⟨some 59, .fldA 2 (.tmp 58), none⟩, ⟨none, .st 1 (.tmp 59) (.tmp 57), none⟩] [0, 2, 3, 4]) (.seq (.seq (.ops [⟨some 60, .mov (.tmp 0), none⟩, ⟨some 61, .len (.tmp 60), none⟩, ⟨some 62, .mov (.const (.int .i64 0)), none⟩] [2, 3, 4, 60, 61, 62]) (.block 2 (.loop xmend_joined_l1))) (.seq (.ops [⟨some 75, .ld (some 7) (.tmp 3), none⟩, ⟨none, .st 7 (.tmp 2) (.tmp 75), none⟩] [2]) .ret))))))) : XCode) = T
  simp only [ofArgs, run_seq, run_block, run_ops, run_skip, run_exit, run_ret, thenQ_normal, thenQ_exit, thenQ_ret, blockQ_normal, blockQ_exit, blockQ_ret, retQ_ret, retQ_normal, ops_nil, ops_none, got_some, ops_wT, ops_wTn, ops_wF, ops_wFn, ops_wU, dops_wT, dops_wTn, dops_wF, dops_wFn, dops_wU, run_condT, run_condF, alt2_int, altB_bool, altI_int, altBB_bool, v_min, v_max, v_not, v_neg, optEv_none, optEv_some, isSome'_none, isSome'_some, pExt0, pExt1, pExt2, Bool.false_and, Bool.true_and, Bool.not_true, Bool.not_false, cond_true, cond_false, dops_nil, dops_none, xval_call, v_mov, v_bin, v_len, v_ext, v_idxA, v_ld, v_st, v_app, v_appN, v_cvs, v_bs1, pBs1, v_slc, v_conv, v_fld, v_fldA, v_new, v_box, v_mks, v_copy, v_isnil, v_nilck, v_pick, ev, evs_nil, evs_cons, fr_get_cons, fr_put_nil, fr_put_cons, fr_put_some, fr_put_none, fr_keep_nil, fr_keep_cons, fr_has_nil, fr_has_cons, Option.bind_some, Option.map_some, xbin, ibin, xresult_eq, xress_nil, xress_tmp, resV, ex_some, if_true, if_false, ite_true, ite_false, reduceIte, reduceCtorEq, Nat.reduceEqDiff, Nat.reduceLT, Nat.reduceLeDiff, Int.reduceLT, Int.reduceLE, Nat.zero_add, Nat.reduceAdd, Bool.false_eq_true, decide_eq_true_eq, decide_eq_false_iff_not, true_implies, false_implies, and_true, true_and]
  generalize H.push ⟨[.int .i64 0, .int .i64 0, .slice none 0 0, .bool false, .int .i64 0, .int .i64 0, .int .i64 0], 1, false, false⟩ = H1 at *
  subst hT
  have hv1 := hv.ext x1
  have x2 := hext_push H1 ⟨[.int .i64 0, .int .i64 0, .slice none 0 0, .bool false, .int .i64 0, .int .i64 0, .int .i64 0], 1, false, false⟩
  have hv2 := hv1.ext x2
  have fact : ∀ H', SDs H' v (s0 :: l0) → pIdx 4 v (.int .i64 0) H' = some (ptrAt v 0, H') ∧ pFldA 0 (ptrAt v 0) H' = some (ptrAt v 0, H') ∧ pFldA 1 (ptrAt v 0) H' = some (ptrAt v 1, H') ∧ pLd none (ptrAt v 0) H' = some (.int .i64 s0.tr, H') ∧ pLd none (ptrAt v 1) H' = some (.int .i64 s0.nu, H') := by
    intro H' h
    have h' : SDs H' v ([] ++ s0 :: l0) := h
    exact ⟨by simpa using sds_idx h' 0 rfl, sds_fld h' 0 0, sds_fld h' 1 0, by simpa using sds_cell h' 0 _ rfl, by simpa using sds_cell h' 1 _ rfl⟩
  obtain ⟨i1, a1, b1, c1, d1⟩ := fact _ hv1
  obtain ⟨i2, a2, b2, c2, d2⟩ := fact _ hv2
  have e1 := hv1.1.len_ok
  have bE : Bx (H1.push ⟨[.int .i64 0, .int .i64 0, .slice none 0 0, .bool false, .int .i64 0, .int .i64 0, .int .i64 0], 1, false, false⟩) H1.n [.int .i64 0, .int .i64 0, .slice none 0 0, .bool false, .int .i64 0, .int .i64 0, .int .i64 0] := ⟨by rw [AH.get_push, if_pos rfl], Nat.lt_succ_self _⟩
  have stE : pSt 7 (.pointer (some ⟨H1.n, 0, none⟩)) (.agg #[.int .i64 s0.tr, .int .i64 s0.nu, .slice none 0 0, .bool true, .int .i64 ((s0 :: l0).length : Int), .int .i64 0, .int .i64 0]) (H1.push ⟨[.int .i64 0, .int .i64 0, .slice none 0 0, .bool false, .int .i64 0, .int .i64 0, .int .i64 0], 1, false, false⟩) = some (undef, (H1.push ⟨[.int .i64 0, .int .i64 0, .slice none 0 0, .bool false, .int .i64 0, .int .i64 0, .int .i64 0], 1, false, false⟩).set H1.n ⟨[.int .i64 s0.tr, .int .i64 s0.nu, .slice none 0 0, .bool true, .int .i64 ((s0 :: l0).length : Int), .int .i64 0, .int .i64 0], 1, false, false⟩) := by
    unfold pSt
    simp only [bE.1, Option.bind_some]
    rfl
  have b2 := bE.set [.int .i64 s0.tr, .int .i64 s0.nu, .slice none 0 0, .bool true, .int .i64 ((s0 :: l0).length : Int), .int .i64 0, .int .i64 0]
  generalize hT : ((.seq (.ops [⟨some 23, .mks 5 1 1 [.int .u8 0] (.const (.int .i64 128)) (.const (.int .i64 128)), none⟩, ⟨some 4, .mov (.tmp 23), none⟩] [0, 2, 3, 4]) (.seq (.seq (.ops [⟨some 24, .mov (.tmp 4), none⟩, ⟨some 25, .len (.tmp 24), none⟩, ⟨some 26, .mov (.const (.int .i64 0)), none⟩] [0, 2, 3, 4, 25, 26]) (.block 0 (.loop xmend_joined_l0))) (.seq (.seq (.ops [⟨some 45, .mov (.tmp 0), none⟩, ⟨some 46, .call 132 [.tmp 45, .func 133], none⟩, ⟨some 8, .mov (.tmp 46), none⟩] [0, 2, 3, 4, 8]) (.seq (.ops [⟨some 47, .mov (.tmp 8), none⟩, ⟨some 48, .bin .geq (.tmp 47) (.const (.int .i64 0)), none⟩] [0, 2, 3, 4, 8, 48]) (.cond (.tmp 48) (.ops [⟨some 49, .mov (.tmp 0), none⟩, ⟨some 50, .mov (.tmp 8), none⟩, ⟨some 51, .idxA 4 (.tmp 49) (.tmp 50), none⟩, ⟨some 52, .fldA 2 (.tmp 51), none⟩, ⟨some 53, .ld none (.tmp 52), none⟩, ⟨some 54, .call 36 [.tmp 53], none⟩, ⟨some 4, .mov (.tmp 54), none⟩, ⟨some 55, .fldA 0 (.tmp 3), none⟩, ⟨some 56, .fldA 3 (.tmp 55), none⟩, ⟨none, .st 1 (.tmp 56) (.const (.bool false)), none⟩] [0, 2, 3, 4]) .skip))) (.seq (.ops [⟨some 57, .mov (.tmp 4), none⟩, ⟨some 58, .fldA 0 (.tmp 3), none⟩, ⟨some 59, .fldA 2 (.tmp 58), none⟩, ⟨none, .st 1 (.tmp 59) (.tmp 57), none⟩] [0, 2, 3, 4]) (.seq (.seq (.ops [⟨some 60, .mov (.tmp 0), none⟩, ⟨some 61, .len (.tmp 60), none⟩, ⟨some 62, .mov (.const (.int .i64 0)), none⟩] [2, 3, 4, 60, 61, 62]) (.block 2 (.loop xmend_joined_l1))) (.seq (.ops [⟨some 75, .ld (some 7) (.tmp 3), none⟩, ⟨none, .st 7 (.tmp 2) (.tmp 75), none⟩] [2]) .ret)))))) : XCode) = T
  simp only [ofArgs, run_seq, run_block, run_ops, run_skip, run_exit, run_ret, thenQ_normal, thenQ_exit, thenQ_ret, blockQ_normal, blockQ_exit, blockQ_ret, retQ_ret, retQ_normal, ops_nil, ops_none, got_some, ops_wT, ops_wTn, ops_wF, ops_wFn, ops_wU, dops_wT, dops_wTn, dops_wF, dops_wFn, dops_wU, run_condT, run_condF, alt2_int, altB_bool, altI_int, altBB_bool, v_min, v_max, v_not, v_neg, optEv_none, optEv_some, isSome'_none, isSome'_some, pExt0, pExt1, pExt2, Bool.false_and, Bool.true_and, Bool.not_true, Bool.not_false, cond_true, cond_false, dops_nil, dops_none, xval_call, v_mov, v_bin, v_len, v_ext, v_idxA, v_ld, v_st, v_app, v_appN, v_cvs, v_bs1, pBs1, v_slc, v_conv, v_fld, v_fldA, v_new, v_box, v_mks, v_copy, v_isnil, v_nilck, v_pick, ev, evs_nil, evs_cons, fr_get_cons, fr_put_nil, fr_put_cons, fr_put_some, fr_put_none, fr_keep_nil, fr_keep_cons, fr_has_nil, fr_has_cons, Option.bind_some, Option.map_some, xbin, ibin, xresult_eq, xress_nil, xress_tmp, resV, ex_some, if_true, if_false, ite_true, ite_false, reduceIte, reduceCtorEq, Nat.reduceEqDiff, Nat.reduceLT, Nat.reduceLeDiff, Int.reduceLT, Int.reduceLE, Nat.zero_add, Nat.reduceAdd, Bool.false_eq_true, decide_eq_true_eq, decide_eq_false_iff_not, true_implies, false_implies, and_true, true_and]
  refine run_dopsS _ _ _ _ _ ?_
  simp only [ofArgs, run_seq, run_block, run_ops, run_skip, run_exit, run_ret, thenQ_normal, thenQ_exit, thenQ_ret, blockQ_normal, blockQ_exit, blockQ_ret, retQ_ret, retQ_normal, ops_nil, ops_none, got_some, ops_wT, ops_wTn, ops_wF, ops_wFn, ops_wU, dops_wT, dops_wTn, dops_wF, dops_wFn, dops_wU, run_condT, run_condF, alt2_int, altB_bool, altI_int, altBB_bool, v_min, v_max, v_not, v_neg, optEv_none, optEv_some, isSome'_none, isSome'_some, pExt0, pExt1, pExt2, Bool.false_and, Bool.true_and, Bool.not_true, Bool.not_false, cond_true, cond_false, dops_nil, dops_none, xval_call, v_mov, v_bin, v_len, v_ext, v_idxA, v_ld, v_st, v_app, v_appN, v_cvs, v_bs1, pBs1, v_slc, v_conv, v_fld, v_fldA, v_new, v_box, v_mks, v_copy, v_isnil, v_nilck, v_pick, ev, evs_nil, evs_cons, fr_get_cons, fr_put_nil, fr_put_cons, fr_put_some, fr_put_none, fr_keep_nil, fr_keep_cons, fr_has_nil, fr_has_cons, Option.bind_some, Option.map_some, xbin, ibin, xresult_eq, xress_nil, xress_tmp, resV, ex_some, if_true, if_false, ite_true, ite_false, reduceIte, reduceCtorEq, Nat.reduceEqDiff, Nat.reduceLT, Nat.reduceLeDiff, Int.reduceLT, Int.reduceLE, Nat.zero_add, Nat.reduceAdd, Bool.false_eq_true, decide_eq_true_eq, decide_eq_false_iff_not, true_implies, false_implies, and_true, true_and, dr_nil, dr_cons, hs0, hs1, hs2, hs3, addC_nil, addC_cons, stabAll_nil, stabAll_cons, stab1_nil, stab1_cons, hat_cons, xval_wT, xval_wTn, xval_wF, xval_wFn, veq_int, veq_bool, veq_ptr, veq_sl, i1, a1, b1, c1, d1, c2, d2, e1, v_bb3, pB3_sd, v_bb2, pB2_rs, stE]
  have x2' : HExt H1 ((H1.push ⟨[.int .i64 0, .int .i64 0, .slice none 0 0, .bool false, .int .i64 0, .int .i64 0, .int .i64 0], 1, false, false⟩).set H1.n ⟨[.int .i64 s0.tr, .int .i64 s0.nu, .slice none 0 0, .bool true, .int .i64 ((s0 :: l0).length : Int), .int .i64 0, .int .i64 0], 1, false, false⟩) := box_ext _ _ _
  have n2 : ((H1.push ⟨[.int .i64 0, .int .i64 0, .slice none 0 0, .bool false, .int .i64 0, .int .i64 0, .int .i64 0], 1, false, false⟩).set H1.n ⟨[.int .i64 s0.tr, .int .i64 s0.nu, .slice none 0 0, .bool true, .int .i64 ((s0 :: l0).length : Int), .int .i64 0, .int .i64 0], 1, false, false⟩).n = H1.n + 1 := rfl
  subst hT
  generalize (H1.push ⟨[.int .i64 0, .int .i64 0, .slice none 0 0, .bool false, .int .i64 0, .int .i64 0, .int .i64 0], 1, false, false⟩).set H1.n ⟨[.int .i64 s0.tr, .int .i64 s0.nu, .slice none 0 0, .bool true, .int .i64 ((s0 :: l0).length : Int), .int .i64 0, .int .i64 0], 1, false, false⟩ = H2 at *
  have hmk := pMks_ok (.int .u8 0) 128 (by omega) .i64 H2 128 rfl
  have x3 := hext_push H2 ⟨rep 128 [.int .u8 0], 1, false, false⟩
  have n3 : (H2.push ⟨rep 128 [.int .u8 0], 1, false, false⟩).n = H2.n + 1 := rfl
  have ob : OwnB H2.n (H2.push ⟨rep 128 [.int .u8 0], 1, false, false⟩) (.slice (some ⟨H2.n, 0, none⟩) 128 128) (List.replicate 128 0) := by
    have hp := Own.pushed H2 (rep 128 [.int .u8 0]) 1 128 false (by rw [rep_length]; rfl)
    unfold OwnB
    rw [rep_one] at hp
    simpa [rep_one] using hp
  have b3 := b2.ext x3
  have hv3 := hv1.ext (x2'.trans x3)
  have e3 := byts_len' (ob.1 : Byts _ (.slice (some ⟨H2.n, 0, none⟩) 128 128) (List.replicate 128 0))
  rw [List.length_replicate] at e3
  have n128 : ((128 : Nat) : Int) = 128 := rfl
  rw [n128] at e3
  generalize hT : ((.seq (.seq (.ops [⟨some 45, .mov (.tmp 0), none⟩, ⟨some 46, .call 132 [.tmp 45, .func 133], none⟩, ⟨some 8, .mov (.tmp 46), none⟩] [0, 2, 3, 4, 8]) (.seq (.ops [⟨some 47, .mov (.tmp 8), none⟩, ⟨some 48, .bin .geq (.tmp 47) (.const (.int .i64 0)), none⟩] [0, 2, 3, 4, 8, 48]) (.cond (.tmp 48) (.ops [⟨some 49, .mov (.tmp 0), none⟩, ⟨some 50, .mov (.tmp 8), none⟩, ⟨some 51, .idxA 4 (.tmp 49) (.tmp 50), none⟩, ⟨some 52, .fldA 2 (.tmp 51), none⟩, ⟨some 53, .ld none (.tmp 52), none⟩, ⟨some 54, .call 36 [.tmp 53], none⟩, ⟨some 4, .mov (.tmp 54), none⟩, ⟨some 55, .fldA 0 (.tmp 3), none⟩, ⟨some 56, .fldA 3 (.tmp 55), none⟩, ⟨none, .st 1 (.tmp 56) (.const (.bool false)), none⟩] [0, 2, 3, 4]) .skip))) (.seq (.ops [⟨some 57, .mov (.tmp 4), none⟩, ⟨some 58, .fldA 0 (.tmp 3), none⟩, ⟨some 59, .fldA 2 (.tmp 58), none⟩, ⟨none, .st 1 (.tmp 59) (.tmp 57), none⟩] [0, 2, 3, 4]) (.seq (.seq (.ops [⟨some 60, .mov (.tmp 0), none⟩, ⟨some 61, .len (.tmp 60), none⟩, ⟨some 62, .mov (.const (.int .i64 0)), none⟩] [2, 3, 4, 60, 61, 62]) (.block 2 (.loop xmend_joined_l1))) (.seq (.ops [⟨some 75, .ld (some 7) (.tmp 3), none⟩, ⟨none, .st 7 (.tmp 2) (.tmp 75), none⟩] [2]) .ret)))) : XCode) = T
  simp only [ofArgs, run_seq, run_block, run_ops, run_skip, run_exit, run_ret, thenQ_normal, thenQ_exit, thenQ_ret, blockQ_normal, blockQ_exit, blockQ_ret, retQ_ret, retQ_normal, ops_nil, ops_none, got_some, ops_wT, ops_wTn, ops_wF, ops_wFn, ops_wU, dops_wT, dops_wTn, dops_wF, dops_wFn, dops_wU, run_condT, run_condF, alt2_int, altB_bool, altI_int, altBB_bool, v_min, v_max, v_not, v_neg, optEv_none, optEv_some, isSome'_none, isSome'_some, pExt0, pExt1, pExt2, Bool.false_and, Bool.true_and, Bool.not_true, Bool.not_false, cond_true, cond_false, dops_nil, dops_none, xval_call, v_mov, v_bin, v_len, v_ext, v_idxA, v_ld, v_st, v_app, v_appN, v_cvs, v_bs1, pBs1, v_slc, v_conv, v_fld, v_fldA, v_new, v_box, v_mks, v_copy, v_isnil, v_nilck, v_pick, ev, evs_nil, evs_cons, fr_get_cons, fr_put_nil, fr_put_cons, fr_put_some, fr_put_none, fr_keep_nil, fr_keep_cons, fr_has_nil, fr_has_cons, Option.bind_some, Option.map_some, xbin, ibin, xresult_eq, xress_nil, xress_tmp, resV, ex_some, if_true, if_false, ite_true, ite_false, reduceIte, reduceCtorEq, Nat.reduceEqDiff, Nat.reduceLT, Nat.reduceLeDiff, Int.reduceLT, Int.reduceLE, Nat.zero_add, Nat.reduceAdd, Bool.false_eq_true, decide_eq_true_eq, decide_eq_false_iff_not, true_implies, false_implies, and_true, true_and, hmk, e3]
  generalize H2.push ⟨rep 128 [.int .u8 0], 1, false, false⟩ = H3 at *
  generalize Value.slice (some ⟨H2.n, 0, none⟩) 128 128 = w at *
  refine joined_l0 H.n H2.n H1.n v _ w (s0 :: l0) (fun b hb => hv.1.lt hb) (fun s hs b hb => (hv.2 s hs).lt hb) hok hl (by omega) (by omega) s0.tr s0.nu _ 128 [] H3 0 _ hv3 (fun k p h => by simp at h) (by simpa using ob) (by omega) b3 rfl rfl ?_
  intro H4 f hv4 hg hf o4 n4 b4 k4
  subst hT
  have hv4' := hv4.1.len_ok
  have n22 := x2.1
  have fin : ∀ (H6 : AH) (w' : Value) (bs : List Int) (bad : Bool), SDs H6 v (s0 :: l0) → OwnB H2.n H6 w' bs → Bx H6 H1.n [.int .i64 s0.tr, .int .i64 s0.nu, w', .bool bad, .int .i64 ((s0 :: l0).length : Int), .int .i64 0, .int .i64 (nT f)] → H4.n ≤ H6.n → (∀ b, b < H4.n → b ≠ H1.n → H6.get b = H4.get b) → bs.length = 128 →
      (((∀ s ∈ s0 :: l0, s.bad = true) ∧ bad = true ∧ bs = f.map Prod.fst) ∨ (∃ p1 s p2, s0 :: l0 = p1 ++ s :: p2 ∧ s.bad = false ∧ (∀ t ∈ p1, t.bad = true) ∧ bad = false ∧ bs = s.bs)) →
      Run Try.prog tab (.seq (.seq (.ops [⟨some 60, .mov (.tmp 0), none⟩, ⟨some 61, .len (.tmp 60), none⟩, ⟨some 62, .mov (.const (.int .i64 0)), none⟩] [2, 3, 4, 60, 61, 62]) (.block 2 (.loop xmend_joined_l1))) (.seq (.ops [⟨some 75, .ld (some 7) (.tmp 3), none⟩, ⟨none, .st 7 (.tmp 2) (.tmp 75), none⟩] [2]) .ret)) [(0, v), (2, .pointer (some ⟨H.n, 0, none⟩)), (3, .pointer (some ⟨H1.n, 0, none⟩)), (4, w')] H6 (retQ [XRes.cell 2 (some 7)] Q) := by
    intro H6 w' bs bad hv6 o6 b6 n6 k6 hbs hdis
    have e6 := hv6.1.len_ok
    have hwE : ∀ b, inB w' b → H2.n ≤ b := fun b ⟨o, a, c, e⟩ => (o6.2 b o a c e).1
    generalize hT : ((.seq (.ops [⟨some 75, .ld (some 7) (.tmp 3), none⟩, ⟨none, .st 7 (.tmp 2) (.tmp 75), none⟩] [2]) .ret) : XCode) = T
    simp only [ofArgs, run_seq, run_block, run_ops, run_skip, run_exit, run_ret, thenQ_normal, thenQ_exit, thenQ_ret, blockQ_normal, blockQ_exit, blockQ_ret, retQ_ret, retQ_normal, ops_nil, ops_none, got_some, ops_wT, ops_wTn, ops_wF, ops_wFn, ops_wU, dops_wT, dops_wTn, dops_wF, dops_wFn, dops_wU, run_condT, run_condF, alt2_int, altB_bool, altI_int, altBB_bool, v_min, v_max, v_not, v_neg, optEv_none, optEv_some, isSome'_none, isSome'_some, pExt0, pExt1, pExt2, Bool.false_and, Bool.true_and, Bool.not_true, Bool.not_false, cond_true, cond_false, dops_nil, dops_none, xval_call, v_mov, v_bin, v_len, v_ext, v_idxA, v_ld, v_st, v_app, v_appN, v_cvs, v_bs1, pBs1, v_slc, v_conv, v_fld, v_fldA, v_new, v_box, v_mks, v_copy, v_isnil, v_nilck, v_pick, ev, evs_nil, evs_cons, fr_get_cons, fr_put_nil, fr_put_cons, fr_put_some, fr_put_none, fr_keep_nil, fr_keep_cons, fr_has_nil, fr_has_cons, Option.bind_some, Option.map_some, xbin, ibin, xresult_eq, xress_nil, xress_tmp, resV, ex_some, if_true, if_false, ite_true, ite_false, reduceIte, reduceCtorEq, Nat.reduceEqDiff, Nat.reduceLT, Nat.reduceLeDiff, Int.reduceLT, Int.reduceLE, Nat.zero_add, Nat.reduceAdd, Bool.false_eq_true, decide_eq_true_eq, decide_eq_false_iff_not, true_implies, false_implies, and_true, true_and, e6]
    refine joined_l1 H.n H2.n H1.n v _ w' bs (by omega) [.int .i64 s0.tr, .int .i64 s0.nu, w', .bool bad, .int .i64 ((s0 :: l0).length : Int)] (.int .i64 (nT f)) (s0 :: l0) (by omega) (fun h => by have := hwE _ h; omega) [] H6 0 ((s0 :: l0).length : Int) 0 _ (by simpa using hv6) (fun b hb => hv.1.lt hb) (fun s hs b hb => (hv.2 s (by simpa using hs)).lt hb) (fun s hs => by have := (hok s hs).2; omega) o6.1 b6 rfl (by omega) (by simp) (by simpa using hl) (by simp) (by simp) ?_
    intro H7 w7 b7 n7 k7
    rw [Int.zero_add] at b7
    have l7 : pLd (some 7) (.pointer (some ⟨H1.n, 0, none⟩)) H7 = some (.agg #[.int .i64 s0.tr, .int .i64 s0.nu, w', .bool bad, .int .i64 ((s0 :: l0).length : Int), .int .i64 (((s0 :: l0).countP fun s => decide (s.bs = bs) : Nat) : Int), .int .i64 (nT f)], H7) := b7.ldn 7 rfl
    have hRE : H.n ≠ H1.n := by omega
    have bR7 : Bx H7 H.n [.int .i64 0, .int .i64 0, .slice none 0 0, .bool false, .int .i64 0, .int .i64 0, .int .i64 0] := ⟨(k7 _ (by omega) hRE).trans ((k6 _ (by omega) hRE).trans ((k4 _ (by omega) hRE).trans ((x3.2 _ (by omega)).trans ((x2'.2 _ (by omega)).trans bR.1)))), by omega⟩
    obtain ⟨y1, y2⟩ := slice_one o6.1
    have stR : pSt 7 (.pointer (some ⟨H.n, 0, none⟩)) (.agg #[.int .i64 s0.tr, .int .i64 s0.nu, w', .bool bad, .int .i64 ((s0 :: l0).length : Int), .int .i64 (((s0 :: l0).countP fun s => decide (s.bs = bs) : Nat) : Int), .int .i64 (nT f)]) H7 = some (undef, H7.set H.n ⟨[.int .i64 s0.tr, .int .i64 s0.nu, w', .bool bad, .int .i64 ((s0 :: l0).length : Int), .int .i64 (((s0 :: l0).countP fun s => decide (s.bs = bs) : Nat) : Int), .int .i64 (nT f)], 1, false, false⟩) := by
      have e : ∀ a b d g h i, vcells (.agg #[a, b, w', d, g, h, i]) = [a, b, w', d, g, h, i] := fun _ _ _ _ _ _ => rfl
      unfold pSt
      simp only [bR7.1, Option.bind_some, e, List.all_cons, List.all_nil, y1]
      rfl
    have gR : (H7.set H.n ⟨[.int .i64 s0.tr, .int .i64 s0.nu, w', .bool bad, .int .i64 ((s0 :: l0).length : Int), .int .i64 (((s0 :: l0).countP fun s => decide (s.bs = bs) : Nat) : Int), .int .i64 (nT f)], 1, false, false⟩).get H.n = some ⟨[.int .i64 s0.tr, .int .i64 s0.nu, w', .bool bad, .int .i64 ((s0 :: l0).length : Int), .int .i64 (((s0 :: l0).countP fun s => decide (s.bs = bs) : Nat) : Int), .int .i64 (nT f)], 1, false, false⟩ := by rw [AH.get_set, if_pos rfl]
    have hcell : ∀ (fr : Fr) (xs : List XRes), fr.get 2 = some (.pointer (some ⟨H.n, 0, none⟩)) → xress fr (H7.set H.n ⟨[.int .i64 s0.tr, .int .i64 s0.nu, w', .bool bad, .int .i64 ((s0 :: l0).length : Int), .int .i64 (((s0 :: l0).countP fun s => decide (s.bs = bs) : Nat) : Int), .int .i64 (nT f)], 1, false, false⟩) (.cell 2 (some 7) :: xs) = (xress fr (H7.set H.n ⟨[.int .i64 s0.tr, .int .i64 s0.nu, w', .bool bad, .int .i64 ((s0 :: l0).length : Int), .int .i64 (((s0 :: l0).countP fun s => decide (s.bs = bs) : Nat) : Int), .int .i64 (nT f)], 1, false, false⟩) xs).map fun vs => .agg #[.int .i64 s0.tr, .int .i64 s0.nu, w', .bool bad, .int .i64 ((s0 :: l0).length : Int), .int .i64 (((s0 :: l0).countP fun s => decide (s.bs = bs) : Nat) : Int), .int .i64 (nT f)] :: vs := by
      intro fr xs hfr
      rw [xress_cell fr _ 2 _ 0 (some 7) _ (.agg #[.int .i64 s0.tr, .int .i64 s0.nu, w', .bool bad, .int .i64 ((s0 :: l0).length : Int), .int .i64 (((s0 :: l0).countP fun s => decide (s.bs = bs) : Nat) : Int), .int .i64 (nT f)]) xs hfr gR rfl]
    subst hT
    simp only [ofArgs, run_seq, run_block, run_ops, run_skip, run_exit, run_ret, thenQ_normal, thenQ_exit, thenQ_ret, blockQ_normal, blockQ_exit, blockQ_ret, retQ_ret, retQ_normal, ops_nil, ops_none, got_some, ops_wT, ops_wTn, ops_wF, ops_wFn, ops_wU, dops_wT, dops_wTn, dops_wF, dops_wFn, dops_wU, run_condT, run_condF, alt2_int, altB_bool, altI_int, altBB_bool, v_min, v_max, v_not, v_neg, optEv_none, optEv_some, isSome'_none, isSome'_some, pExt0, pExt1, pExt2, Bool.false_and, Bool.true_and, Bool.not_true, Bool.not_false, cond_true, cond_false, dops_nil, dops_none, xval_call, v_mov, v_bin, v_len, v_ext, v_idxA, v_ld, v_st, v_app, v_appN, v_cvs, v_bs1, pBs1, v_slc, v_conv, v_fld, v_fldA, v_new, v_box, v_mks, v_copy, v_isnil, v_nilck, v_pick, ev, evs_nil, evs_cons, fr_get_cons, fr_put_nil, fr_put_cons, fr_put_some, fr_put_none, fr_keep_nil, fr_keep_cons, fr_has_nil, fr_has_cons, Option.bind_some, Option.map_some, xbin, ibin, xresult_eq, xress_nil, xress_tmp, resV, ex_some, if_true, if_false, ite_true, ite_false, reduceIte, reduceCtorEq, Nat.reduceEqDiff, Nat.reduceLT, Nat.reduceLeDiff, Int.reduceLT, Int.reduceLE, Nat.zero_add, Nat.reduceAdd, Bool.false_eq_true, decide_eq_true_eq, decide_eq_false_iff_not, true_implies, false_implies, and_true, true_and, l7, stR, hcell]
    refine hq _ w' f bs bad ⟨by show H.n ≤ H7.n; omega, fun b hb => ?_⟩ ?_ hg hf hdis
    · rw [AH.get_set, if_neg (by omega)]
      have : b ≠ H1.n := by omega
      exact (k7 b (by omega) this).trans ((k6 b (by omega) this).trans ((k4 b (by omega) this).trans ((x3.2 b (by omega)).trans ((x2'.2 b (by omega)).trans (x1.2 b hb)))))
    · refine Own.le (n0 := H.n) (Own.same o6 (by show H6.n ≤ H7.n; omega) fun b hb => ?_) (by omega)
      have := hwE b hb
      rw [AH.get_set, if_neg (by omega)]
      exact k7 b (Sl.lt o6.1 hb) (by omega)
  generalize hT : ((.seq (.ops [⟨some 57, .mov (.tmp 4), none⟩, ⟨some 58, .fldA 0 (.tmp 3), none⟩, ⟨some 59, .fldA 2 (.tmp 58), none⟩, ⟨none, .st 1 (.tmp 59) (.tmp 57), none⟩] [0, 2, 3, 4]) (.seq (.seq (.ops [⟨some 60, .mov (.tmp 0), none⟩, ⟨some 61, .len (.tmp 60), none⟩, ⟨some 62, .mov (.const (.int .i64 0)), none⟩] [2, 3, 4, 60, 61, 62]) (.block 2 (.loop xmend_joined_l1))) (.seq (.ops [⟨some 75, .ld (some 7) (.tmp 3), none⟩, ⟨none, .st 7 (.tmp 2) (.tmp 75), none⟩] [2]) .ret))) : XCode) = T
  simp only [ofArgs, run_seq, run_block, run_ops, run_skip, run_exit, run_ret, thenQ_normal, thenQ_exit, thenQ_ret, blockQ_normal, blockQ_exit, blockQ_ret, retQ_ret, retQ_normal, ops_nil, ops_none, got_some, ops_wT, ops_wTn, ops_wF, ops_wFn, ops_wU, dops_wT, dops_wTn, dops_wF, dops_wFn, dops_wU, run_condT, run_condF, alt2_int, altB_bool, altI_int, altBB_bool, v_min, v_max, v_not, v_neg, optEv_none, optEv_some, isSome'_none, isSome'_some, pExt0, pExt1, pExt2, Bool.false_and, Bool.true_and, Bool.not_true, Bool.not_false, cond_true, cond_false, dops_nil, dops_none, xval_call, v_mov, v_bin, v_len, v_ext, v_idxA, v_ld, v_st, v_app, v_appN, v_cvs, v_bs1, pBs1, v_slc, v_conv, v_fld, v_fldA, v_new, v_box, v_mks, v_copy, v_isnil, v_nilck, v_pick, ev, evs_nil, evs_cons, fr_get_cons, fr_put_nil, fr_put_cons, fr_put_some, fr_put_none, fr_keep_nil, fr_keep_cons, fr_has_nil, fr_has_cons, Option.bind_some, Option.map_some, xbin, ibin, xresult_eq, xress_nil, xress_tmp, resV, ex_some, if_true, if_false, ite_true, ite_false, reduceIte, reduceCtorEq, Nat.reduceEqDiff, Nat.reduceLT, Nat.reduceLeDiff, Int.reduceLT, Int.reduceLE, Nat.zero_add, Nat.reduceAdd, Bool.false_eq_true, decide_eq_true_eq, decide_eq_false_iff_not, true_implies, false_implies, and_true, true_and]
  refine idxf_ok v (s0 :: l0) H4 _ hv4 hl ?_ ?_
  · intro hall H5 x5
    have b5 := b4.ext x5
    obtain ⟨w1, w2⟩ := slice_one o4.1
    have st := b5.st 2 (by simp) w w1 w2
    have b6 := b5.set [.int .i64 s0.tr, .int .i64 s0.nu, w, .bool true, .int .i64 ((s0 :: l0).length : Int), .int .i64 0, .int .i64 (nT f)]
    simp only [List.set_cons_succ, List.set_cons_zero] at st
    have c1 : ¬ (-1 : Int) ≥ 0 := by decide
    subst hT
    generalize hT : ((.seq (.seq (.ops [⟨some 60, .mov (.tmp 0), none⟩, ⟨some 61, .len (.tmp 60), none⟩, ⟨some 62, .mov (.const (.int .i64 0)), none⟩] [2, 3, 4, 60, 61, 62]) (.block 2 (.loop xmend_joined_l1))) (.seq (.ops [⟨some 75, .ld (some 7) (.tmp 3), none⟩, ⟨none, .st 7 (.tmp 2) (.tmp 75), none⟩] [2]) .ret)) : XCode) = T
    simp only [ofArgs, run_seq, run_block, run_ops, run_skip, run_exit, run_ret, thenQ_normal, thenQ_exit, thenQ_ret, blockQ_normal, blockQ_exit, blockQ_ret, retQ_ret, retQ_normal, ops_nil, ops_none, got_some, ops_wT, ops_wTn, ops_wF, ops_wFn, ops_wU, dops_wT, dops_wTn, dops_wF, dops_wFn, dops_wU, run_condT, run_condF, alt2_int, altB_bool, altI_int, altBB_bool, v_min, v_max, v_not, v_neg, optEv_none, optEv_some, isSome'_none, isSome'_some, pExt0, pExt1, pExt2, Bool.false_and, Bool.true_and, Bool.not_true, Bool.not_false, cond_true, cond_false, dops_nil, dops_none, xval_call, v_mov, v_bin, v_len, v_ext, v_idxA, v_ld, v_st, v_app, v_appN, v_cvs, v_bs1, pBs1, v_slc, v_conv, v_fld, v_fldA, v_new, v_box, v_mks, v_copy, v_isnil, v_nilck, v_pick, ev, evs_nil, evs_cons, fr_get_cons, fr_put_nil, fr_put_cons, fr_put_some, fr_put_none, fr_keep_nil, fr_keep_cons, fr_has_nil, fr_has_cons, Option.bind_some, Option.map_some, xbin, ibin, xresult_eq, xress_nil, xress_tmp, resV, ex_some, if_true, if_false, ite_true, ite_false, reduceIte, reduceCtorEq, Nat.reduceEqDiff, Nat.reduceLT, Nat.reduceLeDiff, Int.reduceLT, Int.reduceLE, Nat.zero_add, Nat.reduceAdd, Bool.false_eq_true, decide_eq_true_eq, decide_eq_false_iff_not, true_implies, false_implies, and_true, true_and, c1, decide_false, fldAk, st]
    subst hT
    have hwE : ∀ b, inB w b → H2.n ≤ b := fun b ⟨o, a, c, e⟩ => (o4.2 b o a c e).1
    have kk : ∀ b, b ≠ H1.n → (H5.set H1.n ⟨[.int .i64 s0.tr, .int .i64 s0.nu, w, .bool true, .int .i64 ((s0 :: l0).length : Int), .int .i64 0, .int .i64 (nT f)], 1, false, false⟩).get b = H5.get b := fun b hb => by rw [AH.get_set, if_neg hb]
    have hv5 := hv4.ext x5
    have nx := x5.1
    refine fin (H5.set H1.n ⟨[.int .i64 s0.tr, .int .i64 s0.nu, w, .bool true, .int .i64 ((s0 :: l0).length : Int), .int .i64 0, .int .i64 (nT f)], 1, false, false⟩) w (f.map Prod.fst) true ⟨Sl.same hv5.1 (Nat.le_refl _) fun b hb => kk b (by have := hv.1.lt hb; omega), fun s hs => Sl.same (hv5.2 s hs) (Nat.le_refl _) fun b hb => kk b (by have := (hv.2 s hs).lt hb; omega)⟩ (Own.same (Own.ext x5 o4) (Nat.le_refl _) fun b hb => kk b (by have := hwE b hb; omega)) b6 nx (fun b hb hbE => (kk b hbE).trans (x5.2 b hb)) (by simpa using hf) (.inl ⟨hall, rfl, rfl⟩)
  · intro p1 s p2 hsp hgood hbads H5 x5
    have hv5 := hv4.ext x5
    have hv5' : SDs H5 v (p1 ++ s :: p2) := by rw [← hsp]; exact hv5
    have hms : s ∈ s0 :: l0 := by rw [hsp]; simp
    have hpl : p1.length ≤ 1000 := by have := congrArg List.length hsp; rw [List.length_append] at this; omega
    have c1 : ((p1.length : Nat) : Int) ≥ 0 := by omega
    have i1' := sds_idx hv5' (p1.length : Int) rfl
    have f1 := sds_fld hv5' 2 (p1.length * 4)
    have q1 := sds_cell hv5' 2 s.w rfl
    have hbs := hv5'.2 s (by simp)
    have hs128 := (hok s hms).2
    have hnn : ∃ B o l c, s.w = .slice (some ⟨B, o, none⟩) l c := by
      obtain ⟨B, o, c, blk, h, _⟩ := Sl.live hbs (by omega)
      exact ⟨B, o, _, c, h⟩
    have b5 := b4.ext x5
    subst hT
    generalize hT : ((.seq (.seq (.ops [⟨some 60, .mov (.tmp 0), none⟩, ⟨some 61, .len (.tmp 60), none⟩, ⟨some 62, .mov (.const (.int .i64 0)), none⟩] [2, 3, 4, 60, 61, 62]) (.block 2 (.loop xmend_joined_l1))) (.seq (.ops [⟨some 75, .ld (some 7) (.tmp 3), none⟩, ⟨none, .st 7 (.tmp 2) (.tmp 75), none⟩] [2]) .ret)) : XCode) = T
    simp only [ofArgs, run_seq, run_block, run_ops, run_skip, run_exit, run_ret, thenQ_normal, thenQ_exit, thenQ_ret, blockQ_normal, blockQ_exit, blockQ_ret, retQ_ret, retQ_normal, ops_nil, ops_none, got_some, ops_wT, ops_wTn, ops_wF, ops_wFn, ops_wU, dops_wT, dops_wTn, dops_wF, dops_wFn, dops_wU, run_condT, run_condF, alt2_int, altB_bool, altI_int, altBB_bool, v_min, v_max, v_not, v_neg, optEv_none, optEv_some, isSome'_none, isSome'_some, pExt0, pExt1, pExt2, Bool.false_and, Bool.true_and, Bool.not_true, Bool.not_false, cond_true, cond_false, dops_nil, dops_none, xval_call, v_mov, v_bin, v_len, v_ext, v_idxA, v_ld, v_st, v_app, v_appN, v_cvs, v_bs1, pBs1, v_slc, v_conv, v_fld, v_fldA, v_new, v_box, v_mks, v_copy, v_isnil, v_nilck, v_pick, ev, evs_nil, evs_cons, fr_get_cons, fr_put_nil, fr_put_cons, fr_put_some, fr_put_none, fr_keep_nil, fr_keep_cons, fr_has_nil, fr_has_cons, Option.bind_some, Option.map_some, xbin, ibin, xresult_eq, xress_nil, xress_tmp, resV, ex_some, if_true, if_false, ite_true, ite_false, reduceIte, reduceCtorEq, Nat.reduceEqDiff, Nat.reduceLT, Nat.reduceLeDiff, Int.reduceLT, Int.reduceLE, Nat.zero_add, Nat.reduceAdd, Bool.false_eq_true, decide_eq_true_eq, decide_eq_false_iff_not, true_implies, false_implies, and_true, true_and, c1, decide_true, i1', f1, q1]
    refine clone_ok s.bs (by omega) s.w H5 _ hbs hnn ?_
    intro wc H6 oc x6
    have b6 := b5.ext x6
    have st3 := b6.st 3 (by simp) (.bool false) rfl rfl
    simp only [List.set_cons_succ, List.set_cons_zero] at st3
    have b7 := b6.set [.int .i64 s0.tr, .int .i64 s0.nu, .slice none 0 0, .bool false, .int .i64 ((s0 :: l0).length : Int), .int .i64 0, .int .i64 (nT f)]
    obtain ⟨w1, w2⟩ := slice_one oc.1
    have st2 := b7.st 2 (by simp) wc w1 w2
    simp only [List.set_cons_succ, List.set_cons_zero] at st2
    have b8 := b7.set [.int .i64 s0.tr, .int .i64 s0.nu, wc, .bool false, .int .i64 ((s0 :: l0).length : Int), .int .i64 0, .int .i64 (nT f)]
    simp only [ofArgs, run_seq, run_block, run_ops, run_skip, run_exit, run_ret, thenQ_normal, thenQ_exit, thenQ_ret, blockQ_normal, blockQ_exit, blockQ_ret, retQ_ret, retQ_normal, ops_nil, ops_none, got_some, ops_wT, ops_wTn, ops_wF, ops_wFn, ops_wU, dops_wT, dops_wTn, dops_wF, dops_wFn, dops_wU, run_condT, run_condF, alt2_int, altB_bool, altI_int, altBB_bool, v_min, v_max, v_not, v_neg, optEv_none, optEv_some, isSome'_none, isSome'_some, pExt0, pExt1, pExt2, Bool.false_and, Bool.true_and, Bool.not_true, Bool.not_false, cond_true, cond_false, dops_nil, dops_none, xval_call, v_mov, v_bin, v_len, v_ext, v_idxA, v_ld, v_st, v_app, v_appN, v_cvs, v_bs1, pBs1, v_slc, v_conv, v_fld, v_fldA, v_new, v_box, v_mks, v_copy, v_isnil, v_nilck, v_pick, ev, evs_nil, evs_cons, fr_get_cons, fr_put_nil, fr_put_cons, fr_put_some, fr_put_none, fr_keep_nil, fr_keep_cons, fr_has_nil, fr_has_cons, Option.bind_some, Option.map_some, xbin, ibin, xresult_eq, xress_nil, xress_tmp, resV, ex_some, if_true, if_false, ite_true, ite_false, reduceIte, reduceCtorEq, Nat.reduceEqDiff, Nat.reduceLT, Nat.reduceLeDiff, Int.reduceLT, Int.reduceLE, Nat.zero_add, Nat.reduceAdd, Bool.false_eq_true, decide_eq_true_eq, decide_eq_false_iff_not, true_implies, false_implies, and_true, true_and, fldAk, st3, st2]
    subst hT
    have kk : ∀ b, b ≠ H1.n → ((H6.set H1.n ⟨[.int .i64 s0.tr, .int .i64 s0.nu, .slice none 0 0, .bool false, .int .i64 ((s0 :: l0).length : Int), .int .i64 0, .int .i64 (nT f)], 1, false, false⟩).set H1.n ⟨[.int .i64 s0.tr, .int .i64 s0.nu, wc, .bool false, .int .i64 ((s0 :: l0).length : Int), .int .i64 0, .int .i64 (nT f)], 1, false, false⟩).get b = H6.get b := fun b hb => by rw [AH.get_set, if_neg hb, AH.get_set, if_neg hb]
    have hv6 := hv5.ext x6
    have nx := x5.1
    have nx6 := x6.1
    have hwE : ∀ b, inB wc b → H5.n ≤ b := fun b ⟨o, a, c, e⟩ => (oc.2 b o a c e).1
    exact fin ((H6.set H1.n ⟨[.int .i64 s0.tr, .int .i64 s0.nu, .slice none 0 0, .bool false, .int .i64 ((s0 :: l0).length : Int), .int .i64 0, .int .i64 (nT f)], 1, false, false⟩).set H1.n ⟨[.int .i64 s0.tr, .int .i64 s0.nu, wc, .bool false, .int .i64 ((s0 :: l0).length : Int), .int .i64 0, .int .i64 (nT f)], 1, false, false⟩) wc s.bs false ⟨Sl.same hv6.1 (Nat.le_refl _) fun b hb => kk b (by have := hv.1.lt hb; omega), fun t ht => Sl.same (hv6.2 t ht) (Nat.le_refl _) fun b hb => kk b (by have := (hv.2 t ht).lt hb; omega)⟩ (Own.same (Own.le (n0 := H2.n) oc (by omega)) (Nat.le_refl _) fun b hb => kk b (by have := hwE b hb; omega)) b8 (by show H4.n ≤ H6.n; omega) (fun b hb hbE => (kk b hbE).trans ((x6.2 b (by omega)).trans (x5.2 b hb))) hs128 (.inr ⟨p1, s, p2, hsp, hgood, hbads, rfl, rfl⟩)
end Go.Proofs.Ytejedmocjdcdgaa.D

set_option linter.unusedSimpArgs false
set_option linter.unusedVariables false
namespace Go.Proofs.Ytejedmocjdcdgaa.D
open Go Go.Det

/-! ### a sort of equal keys changes nothing -/
def altNN2 (o1 o2 : Option Value) (f : IntKind → Int → IntKind → Int → Option (Value × AH)) (z : Option (Value × AH)) : Option (Value × AH) :=
  match o1, o2 with
  | some (.int k n), some (.int k2 n2) => f k n k2 n2
  | _, _ => z
theorem altNN2_int (k k2 : IntKind) (n n2 : Int) (f : IntKind → Int → IntKind → Int → Option (Value × AH)) (z : Option (Value × AH)) : altNN2 (some (.int k n)) (some (.int k2 n2)) f z = f k n k2 n2 := rfl
theorem v_bs2v {P : Program} {T : XTab} (fr : Fr) (H : AH) (dd : Option Nat) (e : TypeId) (x y : Nat) (z : Value) : xval P (xc P T) ⟨dd, .bslice e 1 2 [z] [(0, .tmp x), (1, .tmp y)], none⟩ fr H =
    altNN2 (ev fr (.tmp x)) (ev fr (.tmp y)) (fun k n k2 n2 => some (.slice (some ⟨H.n, 0, none⟩) 2 2, H.push ⟨[.int k n, .int k2 n2], 1, false, false⟩)) (xop P fr H (.bslice e 1 2 [z] [(0, .tmp x), (1, .tmp y)])) := by
  rw [xval_op dd _ fr H rfl]
  unfold altNN2
  split
  · rename_i k n k2 n2 h h2
    rw [e_bslice]
    simp only [List.map_cons, List.map_nil, xfill, h, h2]
    rfl
  · rfl
theorem isnan_xc (a : Int) (H : AH) : xc Try.prog tab 130 [.int .i64 a] H = some (.bool false, H) := by
  refine got_xc (got_call (res := [.tmp 2]) rfl ?_)
  simp only [ofArgs, run_seq, run_block, run_ops, run_skip, run_exit, run_ret, thenQ_normal, thenQ_exit, thenQ_ret, blockQ_normal, blockQ_exit, blockQ_ret, retQ_ret, retQ_normal, ops_nil, ops_none, got_some, ops_wT, ops_wTn, ops_wF, ops_wFn, ops_wU, dops_wT, dops_wTn, dops_wF, dops_wFn, dops_wU, run_condT, run_condF, alt2_int, altB_bool, altI_int, altBB_bool, v_min, v_max, v_not, v_neg, optEv_none, optEv_some, isSome'_none, isSome'_some, pExt0, pExt1, pExt2, Bool.false_and, Bool.true_and, Bool.not_true, Bool.not_false, cond_true, cond_false, dops_nil, dops_none, xval_call, v_mov, v_bin, v_len, v_ext, v_idxA, v_ld, v_st, v_app, v_appN, v_cvs, v_bs1, pBs1, v_slc, v_conv, v_fld, v_fldA, v_new, v_box, v_mks, v_copy, v_isnil, v_nilck, v_pick, ev, evs_nil, evs_cons, fr_get_cons, fr_put_nil, fr_put_cons, fr_put_some, fr_put_none, fr_keep_nil, fr_keep_cons, fr_has_nil, fr_has_cons, Option.bind_some, Option.map_some, xbin, ibin, xresult_eq, xress_nil, xress_tmp, resV, ex_some, if_true, if_false, ite_true, ite_false, reduceIte, reduceCtorEq, Nat.reduceEqDiff, Nat.reduceLT, Nat.reduceLeDiff, Int.reduceLT, Int.reduceLE, Nat.zero_add, Nat.reduceAdd, Bool.false_eq_true, decide_eq_true_eq, decide_eq_false_iff_not, true_implies, false_implies, and_true, true_and, bne_self_eq_false]
theorem compare_xc (a : Int) (H : AH) : xc Try.prog tab 101 [.int .i64 a, .int .i64 a] H = some (.int .i64 0, H) := by
  refine got_xc (got_call (res := [.tmp 4]) rfl ?_)
  have e1 := isnan_xc a H
  have c1 : ¬ a < a := by omega
  have c2 : ¬ a > a := by omega
  simp only [ofArgs, run_seq, run_block, run_ops, run_skip, run_exit, run_ret, thenQ_normal, thenQ_exit, thenQ_ret, blockQ_normal, blockQ_exit, blockQ_ret, retQ_ret, retQ_normal, ops_nil, ops_none, got_some, ops_wT, ops_wTn, ops_wF, ops_wFn, ops_wU, dops_wT, dops_wTn, dops_wF, dops_wFn, dops_wU, run_condT, run_condF, alt2_int, altB_bool, altI_int, altBB_bool, v_min, v_max, v_not, v_neg, optEv_none, optEv_some, isSome'_none, isSome'_some, pExt0, pExt1, pExt2, Bool.false_and, Bool.true_and, Bool.not_true, Bool.not_false, cond_true, cond_false, dops_nil, dops_none, xval_call, v_mov, v_bin, v_len, v_ext, v_idxA, v_ld, v_st, v_app, v_appN, v_cvs, v_bs1, pBs1, v_slc, v_conv, v_fld, v_fldA, v_new, v_box, v_mks, v_copy, v_isnil, v_nilck, v_pick, ev, evs_nil, evs_cons, fr_get_cons, fr_put_nil, fr_put_cons, fr_put_some, fr_put_none, fr_keep_nil, fr_keep_cons, fr_has_nil, fr_has_cons, Option.bind_some, Option.map_some, xbin, ibin, xresult_eq, xress_nil, xress_tmp, resV, ex_some, if_true, if_false, ite_true, ite_false, reduceIte, reduceCtorEq, Nat.reduceEqDiff, Nat.reduceLT, Nat.reduceLeDiff, Int.reduceLT, Int.reduceLE, Nat.zero_add, Nat.reduceAdd, Bool.false_eq_true, decide_eq_true_eq, decide_eq_false_iff_not, true_implies, false_implies, and_true, true_and, e1, c1, c2, decide_false]
theorem or_xc (s : Value) (H : AH) (hs : Ints H s [0, 0]) : xc Try.prog tab 100 [s] H = some (.int .i64 0, H) := by
  refine got_xc (got_call (res := [.tmp 2]) rfl ?_)
  have e0 := ints_len hs
  have i0 := ints_idx hs 0 0 rfl (by decide)
  have i1 := ints_idx hs 1 1 rfl (by decide)
  have d0 := ints_ld hs 0 0 rfl
  have d1 := ints_ld hs 1 0 rfl
  have n2 : (([0, 0] : List Int).length : Int) = 2 := rfl
  rw [n2] at e0
  have w0 : IntKind.i64.wrap (0 + 1) = 1 := rfl
  have w1 : IntKind.i64.wrap (1 + 1) = 2 := rfl
  have c0 : (0 : Int) < 2 := by decide
  have c1 : (1 : Int) < 2 := by decide
  have c2 : ¬ (2 : Int) < 2 := by decide
  simp only [ofArgs, run_seq, run_block, run_ops, run_skip, run_exit, run_ret, thenQ_normal, thenQ_exit, thenQ_ret, blockQ_normal, blockQ_exit, blockQ_ret, retQ_ret, retQ_normal, ops_nil, ops_none, got_some, ops_wT, ops_wTn, ops_wF, ops_wFn, ops_wU, dops_wT, dops_wTn, dops_wF, dops_wFn, dops_wU, run_condT, run_condF, alt2_int, altB_bool, altI_int, altBB_bool, v_min, v_max, v_not, v_neg, optEv_none, optEv_some, isSome'_none, isSome'_some, pExt0, pExt1, pExt2, Bool.false_and, Bool.true_and, Bool.not_true, Bool.not_false, cond_true, cond_false, dops_nil, dops_none, xval_call, v_mov, v_bin, v_len, v_ext, v_idxA, v_ld, v_st, v_app, v_appN, v_cvs, v_bs1, pBs1, v_slc, v_conv, v_fld, v_fldA, v_new, v_box, v_mks, v_copy, v_isnil, v_nilck, v_pick, ev, evs_nil, evs_cons, fr_get_cons, fr_put_nil, fr_put_cons, fr_put_some, fr_put_none, fr_keep_nil, fr_keep_cons, fr_has_nil, fr_has_cons, Option.bind_some, Option.map_some, xbin, ibin, xresult_eq, xress_nil, xress_tmp, resV, ex_some, if_true, if_false, ite_true, ite_false, reduceIte, reduceCtorEq, Nat.reduceEqDiff, Nat.reduceLT, Nat.reduceLeDiff, Int.reduceLT, Int.reduceLE, Nat.zero_add, Nat.reduceAdd, Bool.false_eq_true, decide_eq_true_eq, decide_eq_false_iff_not, true_implies, false_implies, and_true, true_and, e0]
  rw [run_loop]
  generalize hL : XCode.loop xcmp_Or_int_l0 = L
  simp only [xcmp_Or_int_l0, ofArgs, run_seq, run_block, run_ops, run_skip, run_exit, run_ret, thenQ_normal, thenQ_exit, thenQ_ret, blockQ_normal, blockQ_exit, blockQ_ret, retQ_ret, retQ_normal, ops_nil, ops_none, got_some, ops_wT, ops_wTn, ops_wF, ops_wFn, ops_wU, dops_wT, dops_wTn, dops_wF, dops_wFn, dops_wU, run_condT, run_condF, alt2_int, altB_bool, altI_int, altBB_bool, v_min, v_max, v_not, v_neg, optEv_none, optEv_some, isSome'_none, isSome'_some, pExt0, pExt1, pExt2, Bool.false_and, Bool.true_and, Bool.not_true, Bool.not_false, cond_true, cond_false, dops_nil, dops_none, xval_call, v_mov, v_bin, v_len, v_ext, v_idxA, v_ld, v_st, v_app, v_appN, v_cvs, v_bs1, pBs1, v_slc, v_conv, v_fld, v_fldA, v_new, v_box, v_mks, v_copy, v_isnil, v_nilck, v_pick, ev, evs_nil, evs_cons, fr_get_cons, fr_put_nil, fr_put_cons, fr_put_some, fr_put_none, fr_keep_nil, fr_keep_cons, fr_has_nil, fr_has_cons, Option.bind_some, Option.map_some, xbin, ibin, xresult_eq, xress_nil, xress_tmp, resV, ex_some, if_true, if_false, ite_true, ite_false, reduceIte, reduceCtorEq, Nat.reduceEqDiff, Nat.reduceLT, Nat.reduceLeDiff, Int.reduceLT, Int.reduceLE, Nat.zero_add, Nat.reduceAdd, Bool.false_eq_true, decide_eq_true_eq, decide_eq_false_iff_not, true_implies, false_implies, and_true, true_and, c0, decide_true, i0, d0, bne_self_eq_false, w0]
  subst hL
  rw [run_loop]
  generalize hL : XCode.loop xcmp_Or_int_l0 = L
  simp only [xcmp_Or_int_l0, ofArgs, run_seq, run_block, run_ops, run_skip, run_exit, run_ret, thenQ_normal, thenQ_exit, thenQ_ret, blockQ_normal, blockQ_exit, blockQ_ret, retQ_ret, retQ_normal, ops_nil, ops_none, got_some, ops_wT, ops_wTn, ops_wF, ops_wFn, ops_wU, dops_wT, dops_wTn, dops_wF, dops_wFn, dops_wU, run_condT, run_condF, alt2_int, altB_bool, altI_int, altBB_bool, v_min, v_max, v_not, v_neg, optEv_none, optEv_some, isSome'_none, isSome'_some, pExt0, pExt1, pExt2, Bool.false_and, Bool.true_and, Bool.not_true, Bool.not_false, cond_true, cond_false, dops_nil, dops_none, xval_call, v_mov, v_bin, v_len, v_ext, v_idxA, v_ld, v_st, v_app, v_appN, v_cvs, v_bs1, pBs1, v_slc, v_conv, v_fld, v_fldA, v_new, v_box, v_mks, v_copy, v_isnil, v_nilck, v_pick, ev, evs_nil, evs_cons, fr_get_cons, fr_put_nil, fr_put_cons, fr_put_some, fr_put_none, fr_keep_nil, fr_keep_cons, fr_has_nil, fr_has_cons, Option.bind_some, Option.map_some, xbin, ibin, xresult_eq, xress_nil, xress_tmp, resV, ex_some, if_true, if_false, ite_true, ite_false, reduceIte, reduceCtorEq, Nat.reduceEqDiff, Nat.reduceLT, Nat.reduceLeDiff, Int.reduceLT, Int.reduceLE, Nat.zero_add, Nat.reduceAdd, Bool.false_eq_true, decide_eq_true_eq, decide_eq_false_iff_not, true_implies, false_implies, and_true, true_and, c1, decide_true, i1, d1, bne_self_eq_false, w1]
  subst hL
  rw [run_loop]
  generalize hL : XCode.loop xcmp_Or_int_l0 = L
  simp only [xcmp_Or_int_l0, ofArgs, run_seq, run_block, run_ops, run_skip, run_exit, run_ret, thenQ_normal, thenQ_exit, thenQ_ret, blockQ_normal, blockQ_exit, blockQ_ret, retQ_ret, retQ_normal, ops_nil, ops_none, got_some, ops_wT, ops_wTn, ops_wF, ops_wFn, ops_wU, dops_wT, dops_wTn, dops_wF, dops_wFn, dops_wU, run_condT, run_condF, alt2_int, altB_bool, altI_int, altBB_bool, v_min, v_max, v_not, v_neg, optEv_none, optEv_some, isSome'_none, isSome'_some, pExt0, pExt1, pExt2, Bool.false_and, Bool.true_and, Bool.not_true, Bool.not_false, cond_true, cond_false, dops_nil, dops_none, xval_call, v_mov, v_bin, v_len, v_ext, v_idxA, v_ld, v_st, v_app, v_appN, v_cvs, v_bs1, pBs1, v_slc, v_conv, v_fld, v_fldA, v_new, v_box, v_mks, v_copy, v_isnil, v_nilck, v_pick, ev, evs_nil, evs_cons, fr_get_cons, fr_put_nil, fr_put_cons, fr_put_some, fr_put_none, fr_keep_nil, fr_keep_cons, fr_has_nil, fr_has_cons, Option.bind_some, Option.map_some, xbin, ibin, xresult_eq, xress_nil, xress_tmp, resV, ex_some, if_true, if_false, ite_true, ite_false, reduceIte, reduceCtorEq, Nat.reduceEqDiff, Nat.reduceLT, Nat.reduceLeDiff, Int.reduceLT, Int.reduceLE, Nat.zero_add, Nat.reduceAdd, Bool.false_eq_true, decide_eq_true_eq, decide_eq_false_iff_not, true_implies, false_implies, and_true, true_and, c2, decide_false]
theorem join1_ok (p r : SD) (H : AH) (Q : Value → AH → Prop) (h1 : p.tr = r.tr) (h2 : p.nu = r.nu) (hq : ∀ H', HExt H H' → Q (.int .i64 0) H') :
    Got (xc Try.prog tab 99 [.agg #[.int .i64 p.tr, .int .i64 p.nu, p.w, .bool p.bad], .agg #[.int .i64 r.tr, .int .i64 r.nu, r.w, .bool r.bad]] H) Q := by
  obtain ⟨tr, nu, w, bs, bad⟩ := p
  obtain ⟨tr2, nu2, w2, bs2, bad2⟩ := r
  simp only at h1 h2
  subst h1 h2
  refine got_call (res := [.tmp 4]) rfl ?_
  have v1 : vcells (.agg #[.int .i64 tr, .int .i64 nu, w, .bool bad]) = [.int .i64 tr, .int .i64 nu, w, .bool bad] := rfl
  have v2 : vcells (.agg #[.int .i64 tr, .int .i64 nu, w2, .bool bad2]) = [.int .i64 tr, .int .i64 nu, w2, .bool bad2] := rfl
  have x1 := hext_push H ⟨[.int .i64 tr, .int .i64 nu, w, .bool bad], 1, false, false⟩
  have x2 := hext_push (H.push ⟨[.int .i64 tr, .int .i64 nu, w, .bool bad], 1, false, false⟩) ⟨[.int .i64 tr, .int .i64 nu, w2, .bool bad2], 1, false, false⟩
  have g1 : ((H.push ⟨[.int .i64 tr, .int .i64 nu, w, .bool bad], 1, false, false⟩).push ⟨[.int .i64 tr, .int .i64 nu, w2, .bool bad2], 1, false, false⟩).get H.n = some ⟨[.int .i64 tr, .int .i64 nu, w, .bool bad], 1, false, false⟩ := by rw [AH.get_push, if_neg (by simp), AH.get_push, if_pos rfl]
  have g2 : ((H.push ⟨[.int .i64 tr, .int .i64 nu, w, .bool bad], 1, false, false⟩).push ⟨[.int .i64 tr, .int .i64 nu, w2, .bool bad2], 1, false, false⟩).get (H.n + 1) = some ⟨[.int .i64 tr, .int .i64 nu, w2, .bool bad2], 1, false, false⟩ := by rw [AH.get_push, if_pos (by simp)]
  have xx := x1.trans x2
  generalize hT : ((.seq (.dops [.mk ⟨some 5, .fldA 0 (.tmp 2), none⟩ [2] 0 [], .mk ⟨some 6, .ld none (.tmp 5), none⟩ [5] 1 [], .mk ⟨some 7, .fldA 0 (.tmp 3), none⟩ [3] 0 [], .mk ⟨some 8, .ld none (.tmp 7), none⟩ [7] 1 [], .mk ⟨some 9, .call 101 [.tmp 6, .tmp 8], none⟩ [6, 8] 2 [], .mk ⟨some 10, .fldA 1 (.tmp 2), none⟩ [2] 0 [], .mk ⟨some 11, .ld none (.tmp 10), none⟩ [10] 1 [0], .mk ⟨some 12, .fldA 1 (.tmp 3), none⟩ [3] 0 [], .mk ⟨some 13, .ld none (.tmp 12), none⟩ [12] 1 [0], .mk ⟨some 14, .call 101 [.tmp 11, .tmp 13], none⟩ [11, 13] 2 [], .mk ⟨some 15, .bslice 3 1 2 [.int .i64 0] [(0, .tmp 9), (1, .tmp 14)], none⟩ [9, 14] 2 [], .mk ⟨some 16, .call 100 [.tmp 15], none⟩ [15] 2 [], .mk ⟨some 4, .mov (.tmp 16), none⟩ [16] 0 []] [4]) .ret) : XCode) = T
  simp only [ofArgs, run_seq, run_block, run_ops, run_skip, run_exit, run_ret, thenQ_normal, thenQ_exit, thenQ_ret, blockQ_normal, blockQ_exit, blockQ_ret, retQ_ret, retQ_normal, ops_nil, ops_none, got_some, ops_wT, ops_wTn, ops_wF, ops_wFn, ops_wU, dops_wT, dops_wTn, dops_wF, dops_wFn, dops_wU, run_condT, run_condF, alt2_int, altB_bool, altI_int, altBB_bool, v_min, v_max, v_not, v_neg, optEv_none, optEv_some, isSome'_none, isSome'_some, pExt0, pExt1, pExt2, Bool.false_and, Bool.true_and, Bool.not_true, Bool.not_false, cond_true, cond_false, dops_nil, dops_none, xval_call, v_mov, v_bin, v_len, v_ext, v_idxA, v_ld, v_st, v_app, v_appN, v_cvs, v_bs1, pBs1, v_slc, v_conv, v_fld, v_fldA, v_new, v_box, v_mks, v_copy, v_isnil, v_nilck, v_pick, ev, evs_nil, evs_cons, fr_get_cons, fr_put_nil, fr_put_cons, fr_put_some, fr_put_none, fr_keep_nil, fr_keep_cons, fr_has_nil, fr_has_cons, Option.bind_some, Option.map_some, xbin, ibin, xresult_eq, xress_nil, xress_tmp, resV, ex_some, if_true, if_false, ite_true, ite_false, reduceIte, reduceCtorEq, Nat.reduceEqDiff, Nat.reduceLT, Nat.reduceLeDiff, Int.reduceLT, Int.reduceLE, Nat.zero_add, Nat.reduceAdd, Bool.false_eq_true, decide_eq_true_eq, decide_eq_false_iff_not, true_implies, false_implies, and_true, true_and, v1, v2, AH.push_n]
  generalize (H.push ⟨[.int .i64 tr, .int .i64 nu, w, .bool bad], 1, false, false⟩).push ⟨[.int .i64 tr, .int .i64 nu, w2, .bool bad2], 1, false, false⟩ = H2 at *
  have a0 := bx4_0 g1
  have a1 := bx4_1 g1
  have b0 := bx4_0 g2
  have b1 := bx4_1 g2
  have q0 := compare_xc tr H2
  have q1 := compare_xc nu H2
  have x3 := hext_push H2 ⟨[.int .i64 0, .int .i64 0], 1, false, false⟩
  have hs : Ints (H2.push ⟨[.int .i64 0, .int .i64 0], 1, false, false⟩) (.slice (some ⟨H2.n, 0, none⟩) 2 2) [0, 0] := Sl.pushed H2 [.int .i64 0, .int .i64 0] 1 2 false false rfl
  have q2 := or_xc _ _ hs
  subst hT
  simp only [ofArgs, run_seq, run_block, run_ops, run_skip, run_exit, run_ret, thenQ_normal, thenQ_exit, thenQ_ret, blockQ_normal, blockQ_exit, blockQ_ret, retQ_ret, retQ_normal, ops_nil, ops_none, got_some, ops_wT, ops_wTn, ops_wF, ops_wFn, ops_wU, dops_wT, dops_wTn, dops_wF, dops_wFn, dops_wU, run_condT, run_condF, alt2_int, altB_bool, altI_int, altBB_bool, v_min, v_max, v_not, v_neg, optEv_none, optEv_some, isSome'_none, isSome'_some, pExt0, pExt1, pExt2, Bool.false_and, Bool.true_and, Bool.not_true, Bool.not_false, cond_true, cond_false, dops_nil, dops_none, xval_call, v_mov, v_bin, v_len, v_ext, v_idxA, v_ld, v_st, v_app, v_appN, v_cvs, v_bs1, pBs1, v_slc, v_conv, v_fld, v_fldA, v_new, v_box, v_mks, v_copy, v_isnil, v_nilck, v_pick, ev, evs_nil, evs_cons, fr_get_cons, fr_put_nil, fr_put_cons, fr_put_some, fr_put_none, fr_keep_nil, fr_keep_cons, fr_has_nil, fr_has_cons, Option.bind_some, Option.map_some, xbin, ibin, xresult_eq, xress_nil, xress_tmp, resV, ex_some, if_true, if_false, ite_true, ite_false, reduceIte, reduceCtorEq, Nat.reduceEqDiff, Nat.reduceLT, Nat.reduceLeDiff, Int.reduceLT, Int.reduceLE, Nat.zero_add, Nat.reduceAdd, Bool.false_eq_true, decide_eq_true_eq, decide_eq_false_iff_not, true_implies, false_implies, and_true, true_and]
  refine run_dopsS _ _ _ _ _ ?_
  simp only [ofArgs, run_seq, run_block, run_ops, run_skip, run_exit, run_ret, thenQ_normal, thenQ_exit, thenQ_ret, blockQ_normal, blockQ_exit, blockQ_ret, retQ_ret, retQ_normal, ops_nil, ops_none, got_some, ops_wT, ops_wTn, ops_wF, ops_wFn, ops_wU, dops_wT, dops_wTn, dops_wF, dops_wFn, dops_wU, run_condT, run_condF, alt2_int, altB_bool, altI_int, altBB_bool, v_min, v_max, v_not, v_neg, optEv_none, optEv_some, isSome'_none, isSome'_some, pExt0, pExt1, pExt2, Bool.false_and, Bool.true_and, Bool.not_true, Bool.not_false, cond_true, cond_false, dops_nil, dops_none, xval_call, v_mov, v_bin, v_len, v_ext, v_idxA, v_ld, v_st, v_app, v_appN, v_cvs, v_bs1, pBs1, v_slc, v_conv, v_fld, v_fldA, v_new, v_box, v_mks, v_copy, v_isnil, v_nilck, v_pick, ev, evs_nil, evs_cons, fr_get_cons, fr_put_nil, fr_put_cons, fr_put_some, fr_put_none, fr_keep_nil, fr_keep_cons, fr_has_nil, fr_has_cons, Option.bind_some, Option.map_some, xbin, ibin, xresult_eq, xress_nil, xress_tmp, resV, ex_some, if_true, if_false, ite_true, ite_false, reduceIte, reduceCtorEq, Nat.reduceEqDiff, Nat.reduceLT, Nat.reduceLeDiff, Int.reduceLT, Int.reduceLE, Nat.zero_add, Nat.reduceAdd, Bool.false_eq_true, decide_eq_true_eq, decide_eq_false_iff_not, true_implies, false_implies, and_true, true_and, dr_nil, dr_cons, hs0, hs1, hs2, hs3, addC_nil, addC_cons, stabAll_nil, stabAll_cons, stab1_nil, stab1_cons, hat_cons, xval_wT, xval_wTn, xval_wF, xval_wFn, veq_int, veq_bool, veq_ptr, veq_sl, fldA0, fldA1, a0, a1, b0, b1, q0, q1, v_bs2v, altNN2_int, q2]
  exact hq _ (xx.trans x3)
end Go.Proofs.Ytejedmocjdcdgaa.D

set_option linter.unusedSimpArgs false
set_option linter.unusedVariables false
namespace Go.Proofs.Ytejedmocjdcdgaa.D
open Go Go.Det

theorem sds_idx' {H : AH} {v : Value} {l : List SD} (h : SDs H v l) (k : Nat) (hk : k < l.length) (i : Int) (hi : i = (k : Int)) : pIdx 4 v (.int .i64 i) H = some (ptrAt v (k * 4), H) ∧ pLd (some 4) (ptrAt v (k * 4)) H = some (.agg #[.int .i64 l[k].tr, .int .i64 l[k].nu, l[k].w, .bool l[k].bad], H) := by
  have hl : (l.take k).length = k := by rw [List.length_take]; omega
  have h' : SDs H v (l.take k ++ l[k] :: l.drop (k + 1)) := by
    have : l.take k ++ l[k] :: l.drop (k + 1) = l := by rw [← List.drop_eq_getElem_cons hk, List.take_append_drop]
    rw [this]; exact h
  have e1 := sds_idx h' i (by rw [hl]; exact hi)
  have e2 := sds_ld h'
  rw [hl] at e1 e2
  exact ⟨e1, e2⟩
theorem ins_l1 (v : Value) (l : List SD) (hsame : ∀ s ∈ l, ∀ t ∈ l, s.tr = t.tr ∧ s.nu = t.nu) (a : Nat) (hl : l.length ≤ 1000) (r : Nat) : ∀ (k : Nat) (H : AH) (Q : XExit → Fr → AH → Prop), SDs H v l → a < k → k + r = l.length →
    (∀ H', HExt H H' → Q (.exit 0) [(0, v), (1, .int .i64 (a : Int)), (2, .int .i64 (l.length : Int)), (3, .func (.func 99) #[] #[]), (8, .int .i64 (l.length : Int)), (14, .bool false)] H') →
    Run Try.prog tab (.loop xslices_insertionSortCmpFunc_api_SectorData_l1) [(0, v), (1, .int .i64 (a : Int)), (2, .int .i64 (l.length : Int)), (3, .func (.func 99) #[] #[]), (8, .int .i64 (k : Int))] H Q := by
  induction r with
  | zero =>
    intro k H Q hv hak hk hq
    rw [run_loop]
    generalize hL : XCode.loop xslices_insertionSortCmpFunc_api_SectorData_l1 = L
    have hkN : k = l.length := by omega
    subst hkN
    have hf : ¬ (l.length : Int) < (l.length : Int) := by omega
    simp only [xslices_insertionSortCmpFunc_api_SectorData_l1, ofArgs, run_seq, run_block, run_ops, run_skip, run_exit, run_ret, thenQ_normal, thenQ_exit, thenQ_ret, blockQ_normal, blockQ_exit, blockQ_ret, retQ_ret, retQ_normal, ops_nil, ops_none, got_some, ops_wT, ops_wTn, ops_wF, ops_wFn, ops_wU, dops_wT, dops_wTn, dops_wF, dops_wFn, dops_wU, run_condT, run_condF, alt2_int, altB_bool, altI_int, altBB_bool, v_min, v_max, v_not, v_neg, optEv_none, optEv_some, isSome'_none, isSome'_some, pExt0, pExt1, pExt2, Bool.false_and, Bool.true_and, Bool.not_true, Bool.not_false, cond_true, cond_false, dops_nil, dops_none, xval_call, v_mov, v_bin, v_len, v_ext, v_idxA, v_ld, v_st, v_app, v_appN, v_cvs, v_bs1, pBs1, v_slc, v_conv, v_fld, v_fldA, v_new, v_box, v_mks, v_copy, v_isnil, v_nilck, v_pick, ev, evs_nil, evs_cons, fr_get_cons, fr_put_nil, fr_put_cons, fr_put_some, fr_put_none, fr_keep_nil, fr_keep_cons, fr_has_nil, fr_has_cons, Option.bind_some, Option.map_some, xbin, ibin, xresult_eq, xress_nil, xress_tmp, resV, ex_some, if_true, if_false, ite_true, ite_false, reduceIte, reduceCtorEq, Nat.reduceEqDiff, Nat.reduceLT, Nat.reduceLeDiff, Int.reduceLT, Int.reduceLE, Nat.zero_add, Nat.reduceAdd, Bool.false_eq_true, decide_eq_true_eq, decide_eq_false_iff_not, true_implies, false_implies, and_true, true_and, hf, decide_false]
    exact hq H (HExt.refl H)
  | succ r ih =>
    intro k H Q hv hak hk hq
    rw [run_loop]
    generalize hL : XCode.loop xslices_insertionSortCmpFunc_api_SectorData_l1 = L
    have hlt : (k : Int) < (l.length : Int) := by omega
    have hkl : k < l.length := by omega
    have hgt : (k : Int) > (a : Int) := by omega
    obtain ⟨e1, e2⟩ := sds_idx' hv k hkl (k : Int) rfl
    obtain ⟨e3, e4⟩ := sds_idx' hv (k - 1) (by omega) ((k : Int) - 1) (by omega)
    have w1 := wrI ((k : Int) - 1) (by omega) (by omega)
    have w3 : IntKind.i64.wrap ((k : Int) + 1) = ((k + 1 : Nat) : Int) := by rw [wrI _ (by omega) (by omega)]; omega
    have ea : (#[] : Array Value).toList ++ [.agg #[.int .i64 l[k].tr, .int .i64 l[k].nu, l[k].w, .bool l[k].bad], .agg #[.int .i64 (l[k - 1]'(by omega)).tr, .int .i64 (l[k - 1]'(by omega)).nu, (l[k - 1]'(by omega)).w, .bool (l[k - 1]'(by omega)).bad]] ++ (#[] : Array Value).toList = [.agg #[.int .i64 l[k].tr, .int .i64 l[k].nu, l[k].w, .bool l[k].bad], .agg #[.int .i64 (l[k - 1]'(by omega)).tr, .int .i64 (l[k - 1]'(by omega)).nu, (l[k - 1]'(by omega)).w, .bool (l[k - 1]'(by omega)).bad]] := rfl
    have hs := hsame l[k] (List.getElem_mem _) (l[k - 1]'(by omega)) (List.getElem_mem _)
    have c0 : ¬ (0 : Int) < 0 := by decide
    simp only [xslices_insertionSortCmpFunc_api_SectorData_l1, ofArgs, run_seq, run_block, run_ops, run_skip, run_exit, run_ret, thenQ_normal, thenQ_exit, thenQ_ret, blockQ_normal, blockQ_exit, blockQ_ret, retQ_ret, retQ_normal, ops_nil, ops_none, got_some, ops_wT, ops_wTn, ops_wF, ops_wFn, ops_wU, dops_wT, dops_wTn, dops_wF, dops_wFn, dops_wU, run_condT, run_condF, alt2_int, altB_bool, altI_int, altBB_bool, v_min, v_max, v_not, v_neg, optEv_none, optEv_some, isSome'_none, isSome'_some, pExt0, pExt1, pExt2, Bool.false_and, Bool.true_and, Bool.not_true, Bool.not_false, cond_true, cond_false, dops_nil, dops_none, xval_call, v_mov, v_bin, v_len, v_ext, v_idxA, v_ld, v_st, v_app, v_appN, v_cvs, v_bs1, pBs1, v_slc, v_conv, v_fld, v_fldA, v_new, v_box, v_mks, v_copy, v_isnil, v_nilck, v_pick, ev, evs_nil, evs_cons, fr_get_cons, fr_put_nil, fr_put_cons, fr_put_some, fr_put_none, fr_keep_nil, fr_keep_cons, fr_has_nil, fr_has_cons, Option.bind_some, Option.map_some, xbin, ibin, xresult_eq, xress_nil, xress_tmp, resV, ex_some, if_true, if_false, ite_true, ite_false, reduceIte, reduceCtorEq, Nat.reduceEqDiff, Nat.reduceLT, Nat.reduceLeDiff, Int.reduceLT, Int.reduceLE, Nat.zero_add, Nat.reduceAdd, Bool.false_eq_true, decide_eq_true_eq, decide_eq_false_iff_not, true_implies, false_implies, and_true, true_and, hlt, decide_true]
    rw [run_loop]
    generalize hL2 : XCode.loop xslices_insertionSortCmpFunc_api_SectorData_l0 = L2
    simp only [xslices_insertionSortCmpFunc_api_SectorData_l0, ofArgs, run_seq, run_block, run_ops, run_skip, run_exit, run_ret, thenQ_normal, thenQ_exit, thenQ_ret, blockQ_normal, blockQ_exit, blockQ_ret, retQ_ret, retQ_normal, ops_nil, ops_none, got_some, ops_wT, ops_wTn, ops_wF, ops_wFn, ops_wU, dops_wT, dops_wTn, dops_wF, dops_wFn, dops_wU, run_condT, run_condF, alt2_int, altB_bool, altI_int, altBB_bool, v_min, v_max, v_not, v_neg, optEv_none, optEv_some, isSome'_none, isSome'_some, pExt0, pExt1, pExt2, Bool.false_and, Bool.true_and, Bool.not_true, Bool.not_false, cond_true, cond_false, dops_nil, dops_none, xval_call, v_mov, v_bin, v_len, v_ext, v_idxA, v_ld, v_st, v_app, v_appN, v_cvs, v_bs1, pBs1, v_slc, v_conv, v_fld, v_fldA, v_new, v_box, v_mks, v_copy, v_isnil, v_nilck, v_pick, ev, evs_nil, evs_cons, fr_get_cons, fr_put_nil, fr_put_cons, fr_put_some, fr_put_none, fr_keep_nil, fr_keep_cons, fr_has_nil, fr_has_cons, Option.bind_some, Option.map_some, xbin, ibin, xresult_eq, xress_nil, xress_tmp, resV, ex_some, if_true, if_false, ite_true, ite_false, reduceIte, reduceCtorEq, Nat.reduceEqDiff, Nat.reduceLT, Nat.reduceLeDiff, Int.reduceLT, Int.reduceLE, Nat.zero_add, Nat.reduceAdd, Bool.false_eq_true, decide_eq_true_eq, decide_eq_false_iff_not, true_implies, false_implies, and_true, true_and]
    refine run_dops _ _ _ _ _ rfl ?_
    simp only [ofArgs, run_seq, run_block, run_ops, run_skip, run_exit, run_ret, thenQ_normal, thenQ_exit, thenQ_ret, blockQ_normal, blockQ_exit, blockQ_ret, retQ_ret, retQ_normal, ops_nil, ops_none, got_some, ops_wT, ops_wTn, ops_wF, ops_wFn, ops_wU, dops_wT, dops_wTn, dops_wF, dops_wFn, dops_wU, run_condT, run_condF, alt2_int, altB_bool, altI_int, altBB_bool, v_min, v_max, v_not, v_neg, optEv_none, optEv_some, isSome'_none, isSome'_some, pExt0, pExt1, pExt2, Bool.false_and, Bool.true_and, Bool.not_true, Bool.not_false, cond_true, cond_false, dops_nil, dops_none, xval_call, v_mov, v_bin, v_len, v_ext, v_idxA, v_ld, v_st, v_app, v_appN, v_cvs, v_bs1, pBs1, v_slc, v_conv, v_fld, v_fldA, v_new, v_box, v_mks, v_copy, v_isnil, v_nilck, v_pick, ev, evs_nil, evs_cons, fr_get_cons, fr_put_nil, fr_put_cons, fr_put_some, fr_put_none, fr_keep_nil, fr_keep_cons, fr_has_nil, fr_has_cons, Option.bind_some, Option.map_some, xbin, ibin, xresult_eq, xress_nil, xress_tmp, resV, ex_some, if_true, if_false, ite_true, ite_false, reduceIte, reduceCtorEq, Nat.reduceEqDiff, Nat.reduceLT, Nat.reduceLeDiff, Int.reduceLT, Int.reduceLE, Nat.zero_add, Nat.reduceAdd, Bool.false_eq_true, decide_eq_true_eq, decide_eq_false_iff_not, true_implies, false_implies, and_true, true_and, hgt, decide_true, e1, e2, w1, e3, e4, v_callv, pCallV_func, ea]
    refine join1_ok _ _ H _ hs.1 hs.2 ?_
    intro H1 x1
    simp only [ofArgs, run_seq, run_block, run_ops, run_skip, run_exit, run_ret, thenQ_normal, thenQ_exit, thenQ_ret, blockQ_normal, blockQ_exit, blockQ_ret, retQ_ret, retQ_normal, ops_nil, ops_none, got_some, ops_wT, ops_wTn, ops_wF, ops_wFn, ops_wU, dops_wT, dops_wTn, dops_wF, dops_wFn, dops_wU, run_condT, run_condF, alt2_int, altB_bool, altI_int, altBB_bool, v_min, v_max, v_not, v_neg, optEv_none, optEv_some, isSome'_none, isSome'_some, pExt0, pExt1, pExt2, Bool.false_and, Bool.true_and, Bool.not_true, Bool.not_false, cond_true, cond_false, dops_nil, dops_none, xval_call, v_mov, v_bin, v_len, v_ext, v_idxA, v_ld, v_st, v_app, v_appN, v_cvs, v_bs1, pBs1, v_slc, v_conv, v_fld, v_fldA, v_new, v_box, v_mks, v_copy, v_isnil, v_nilck, v_pick, ev, evs_nil, evs_cons, fr_get_cons, fr_put_nil, fr_put_cons, fr_put_some, fr_put_none, fr_keep_nil, fr_keep_cons, fr_has_nil, fr_has_cons, Option.bind_some, Option.map_some, xbin, ibin, xresult_eq, xress_nil, xress_tmp, resV, ex_some, if_true, if_false, ite_true, ite_false, reduceIte, reduceCtorEq, Nat.reduceEqDiff, Nat.reduceLT, Nat.reduceLeDiff, Int.reduceLT, Int.reduceLE, Nat.zero_add, Nat.reduceAdd, Bool.false_eq_true, decide_eq_true_eq, decide_eq_false_iff_not, true_implies, false_implies, and_true, true_and, c0, decide_false, w3]
    subst hL
    refine ih (k + 1) H1 Q (hv.ext x1) (by omega) (by omega) ?_
    intro H2 x2
    exact hq H2 (x1.trans x2)
theorem ins_ok (v : Value) (l : List SD) (hsame : ∀ s ∈ l, ∀ t ∈ l, s.tr = t.tr ∧ s.nu = t.nu) (hl : l.length ≤ 1000) (hl1 : 1 ≤ l.length) (H : AH) (Q : Value → AH → Prop) (hv : SDs H v l) (hq : ∀ H' u, HExt H H' → Q u H') :
    Got (xc Try.prog tab 141 [v, .int .i64 0, .int .i64 (l.length : Int), .func (.func 99) #[] #[]] H) Q := by
  refine got_call (res := []) rfl ?_
  have w0 : IntKind.i64.wrap (0 + 1) = 1 := rfl
  simp only [ofArgs, run_seq, run_block, run_ops, run_skip, run_exit, run_ret, thenQ_normal, thenQ_exit, thenQ_ret, blockQ_normal, blockQ_exit, blockQ_ret, retQ_ret, retQ_normal, ops_nil, ops_none, got_some, ops_wT, ops_wTn, ops_wF, ops_wFn, ops_wU, dops_wT, dops_wTn, dops_wF, dops_wFn, dops_wU, run_condT, run_condF, alt2_int, altB_bool, altI_int, altBB_bool, v_min, v_max, v_not, v_neg, optEv_none, optEv_some, isSome'_none, isSome'_some, pExt0, pExt1, pExt2, Bool.false_and, Bool.true_and, Bool.not_true, Bool.not_false, cond_true, cond_false, dops_nil, dops_none, xval_call, v_mov, v_bin, v_len, v_ext, v_idxA, v_ld, v_st, v_app, v_appN, v_cvs, v_bs1, pBs1, v_slc, v_conv, v_fld, v_fldA, v_new, v_box, v_mks, v_copy, v_isnil, v_nilck, v_pick, ev, evs_nil, evs_cons, fr_get_cons, fr_put_nil, fr_put_cons, fr_put_some, fr_put_none, fr_keep_nil, fr_keep_cons, fr_has_nil, fr_has_cons, Option.bind_some, Option.map_some, xbin, ibin, xresult_eq, xress_nil, xress_tmp, resV, ex_some, if_true, if_false, ite_true, ite_false, reduceIte, reduceCtorEq, Nat.reduceEqDiff, Nat.reduceLT, Nat.reduceLeDiff, Int.reduceLT, Int.reduceLE, Nat.zero_add, Nat.reduceAdd, Bool.false_eq_true, decide_eq_true_eq, decide_eq_false_iff_not, true_implies, false_implies, and_true, true_and, w0]
  have tl := fun Q => ins_l1 v l hsame 0 hl (l.length - 1) 1 H Q hv (by decide) (by omega)
  refine tl _ ?_
  intro H' x
  simp only [ofArgs, run_seq, run_block, run_ops, run_skip, run_exit, run_ret, thenQ_normal, thenQ_exit, thenQ_ret, blockQ_normal, blockQ_exit, blockQ_ret, retQ_ret, retQ_normal, ops_nil, ops_none, got_some, ops_wT, ops_wTn, ops_wF, ops_wFn, ops_wU, dops_wT, dops_wTn, dops_wF, dops_wFn, dops_wU, run_condT, run_condF, alt2_int, altB_bool, altI_int, altBB_bool, v_min, v_max, v_not, v_neg, optEv_none, optEv_some, isSome'_none, isSome'_some, pExt0, pExt1, pExt2, Bool.false_and, Bool.true_and, Bool.not_true, Bool.not_false, cond_true, cond_false, dops_nil, dops_none, xval_call, v_mov, v_bin, v_len, v_ext, v_idxA, v_ld, v_st, v_app, v_appN, v_cvs, v_bs1, pBs1, v_slc, v_conv, v_fld, v_fldA, v_new, v_box, v_mks, v_copy, v_isnil, v_nilck, v_pick, ev, evs_nil, evs_cons, fr_get_cons, fr_put_nil, fr_put_cons, fr_put_some, fr_put_none, fr_keep_nil, fr_keep_cons, fr_has_nil, fr_has_cons, Option.bind_some, Option.map_some, xbin, ibin, xresult_eq, xress_nil, xress_tmp, resV, ex_some, if_true, if_false, ite_true, ite_false, reduceIte, reduceCtorEq, Nat.reduceEqDiff, Nat.reduceLT, Nat.reduceLeDiff, Int.reduceLT, Int.reduceLE, Nat.zero_add, Nat.reduceAdd, Bool.false_eq_true, decide_eq_true_eq, decide_eq_false_iff_not, true_implies, false_implies, and_true, true_and]
  exact hq H' _ x
theorem stable_ok (v : Value) (l : List SD) (hsame : ∀ s ∈ l, ∀ t ∈ l, s.tr = t.tr ∧ s.nu = t.nu) (hl : l.length < 20) (hl1 : 1 ≤ l.length) (H : AH) (Q : Value → AH → Prop) (hv : SDs H v l) (hq : ∀ H' u, HExt H H' → Q u H') :
    Got (xc Try.prog tab 98 [v, .func (.func 99) #[] #[]] H) Q := by
  refine got_call (res := []) rfl ?_
  have e0 := hv.1.len_ok
  simp only [ofArgs, run_seq, run_block, run_ops, run_skip, run_exit, run_ret, thenQ_normal, thenQ_exit, thenQ_ret, blockQ_normal, blockQ_exit, blockQ_ret, retQ_ret, retQ_normal, ops_nil, ops_none, got_some, ops_wT, ops_wTn, ops_wF, ops_wFn, ops_wU, dops_wT, dops_wTn, dops_wF, dops_wFn, dops_wU, run_condT, run_condF, alt2_int, altB_bool, altI_int, altBB_bool, v_min, v_max, v_not, v_neg, optEv_none, optEv_some, isSome'_none, isSome'_some, pExt0, pExt1, pExt2, Bool.false_and, Bool.true_and, Bool.not_true, Bool.not_false, cond_true, cond_false, dops_nil, dops_none, xval_call, v_mov, v_bin, v_len, v_ext, v_idxA, v_ld, v_st, v_app, v_appN, v_cvs, v_bs1, pBs1, v_slc, v_conv, v_fld, v_fldA, v_new, v_box, v_mks, v_copy, v_isnil, v_nilck, v_pick, ev, evs_nil, evs_cons, fr_get_cons, fr_put_nil, fr_put_cons, fr_put_some, fr_put_none, fr_keep_nil, fr_keep_cons, fr_has_nil, fr_has_cons, Option.bind_some, Option.map_some, xbin, ibin, xresult_eq, xress_nil, xress_tmp, resV, ex_some, if_true, if_false, ite_true, ite_false, reduceIte, reduceCtorEq, Nat.reduceEqDiff, Nat.reduceLT, Nat.reduceLeDiff, Int.reduceLT, Int.reduceLE, Nat.zero_add, Nat.reduceAdd, Bool.false_eq_true, decide_eq_true_eq, decide_eq_false_iff_not, true_implies, false_implies, and_true, true_and, e0]
  refine got_call (res := []) rfl ?_
  have c1 : ¬ (20 : Int) ≤ (l.length : Int) := by omega
  have c2 : ¬ (20 : Int) < (l.length : Int) := by omega
  simp only [ofArgs, run_seq, run_block, run_ops, run_skip, run_exit, run_ret, thenQ_normal, thenQ_exit, thenQ_ret, blockQ_normal, blockQ_exit, blockQ_ret, retQ_ret, retQ_normal, ops_nil, ops_none, got_some, ops_wT, ops_wTn, ops_wF, ops_wFn, ops_wU, dops_wT, dops_wTn, dops_wF, dops_wFn, dops_wU, run_condT, run_condF, alt2_int, altB_bool, altI_int, altBB_bool, v_min, v_max, v_not, v_neg, optEv_none, optEv_some, isSome'_none, isSome'_some, pExt0, pExt1, pExt2, Bool.false_and, Bool.true_and, Bool.not_true, Bool.not_false, cond_true, cond_false, dops_nil, dops_none, xval_call, v_mov, v_bin, v_len, v_ext, v_idxA, v_ld, v_st, v_app, v_appN, v_cvs, v_bs1, pBs1, v_slc, v_conv, v_fld, v_fldA, v_new, v_box, v_mks, v_copy, v_isnil, v_nilck, v_pick, ev, evs_nil, evs_cons, fr_get_cons, fr_put_nil, fr_put_cons, fr_put_some, fr_put_none, fr_keep_nil, fr_keep_cons, fr_has_nil, fr_has_cons, Option.bind_some, Option.map_some, xbin, ibin, xresult_eq, xress_nil, xress_tmp, resV, ex_some, if_true, if_false, ite_true, ite_false, reduceIte, reduceCtorEq, Nat.reduceEqDiff, Nat.reduceLT, Nat.reduceLeDiff, Int.reduceLT, Int.reduceLE, Nat.zero_add, Nat.reduceAdd, Bool.false_eq_true, decide_eq_true_eq, decide_eq_false_iff_not, true_implies, false_implies, and_true, true_and]
  rw [run_loop]
  generalize hL : XCode.loop xslices_stableCmpFunc_api_SectorData_l0 = L
  simp only [xslices_stableCmpFunc_api_SectorData_l0, ofArgs, run_seq, run_block, run_ops, run_skip, run_exit, run_ret, thenQ_normal, thenQ_exit, thenQ_ret, blockQ_normal, blockQ_exit, blockQ_ret, retQ_ret, retQ_normal, ops_nil, ops_none, got_some, ops_wT, ops_wTn, ops_wF, ops_wFn, ops_wU, dops_wT, dops_wTn, dops_wF, dops_wFn, dops_wU, run_condT, run_condF, alt2_int, altB_bool, altI_int, altBB_bool, v_min, v_max, v_not, v_neg, optEv_none, optEv_some, isSome'_none, isSome'_some, pExt0, pExt1, pExt2, Bool.false_and, Bool.true_and, Bool.not_true, Bool.not_false, cond_true, cond_false, dops_nil, dops_none, xval_call, v_mov, v_bin, v_len, v_ext, v_idxA, v_ld, v_st, v_app, v_appN, v_cvs, v_bs1, pBs1, v_slc, v_conv, v_fld, v_fldA, v_new, v_box, v_mks, v_copy, v_isnil, v_nilck, v_pick, ev, evs_nil, evs_cons, fr_get_cons, fr_put_nil, fr_put_cons, fr_put_some, fr_put_none, fr_keep_nil, fr_keep_cons, fr_has_nil, fr_has_cons, Option.bind_some, Option.map_some, xbin, ibin, xresult_eq, xress_nil, xress_tmp, resV, ex_some, if_true, if_false, ite_true, ite_false, reduceIte, reduceCtorEq, Nat.reduceEqDiff, Nat.reduceLT, Nat.reduceLeDiff, Int.reduceLT, Int.reduceLE, Nat.zero_add, Nat.reduceAdd, Bool.false_eq_true, decide_eq_true_eq, decide_eq_false_iff_not, true_implies, false_implies, and_true, true_and, c1, decide_false]
  refine ins_ok v l hsame (by omega) hl1 H _ hv ?_
  intro H' u x
  rw [run_loop]
  generalize hL : XCode.loop xslices_stableCmpFunc_api_SectorData_l2 = L
  simp only [xslices_stableCmpFunc_api_SectorData_l2, ofArgs, run_seq, run_block, run_ops, run_skip, run_exit, run_ret, thenQ_normal, thenQ_exit, thenQ_ret, blockQ_normal, blockQ_exit, blockQ_ret, retQ_ret, retQ_normal, ops_nil, ops_none, got_some, ops_wT, ops_wTn, ops_wF, ops_wFn, ops_wU, dops_wT, dops_wTn, dops_wF, dops_wFn, dops_wU, run_condT, run_condF, alt2_int, altB_bool, altI_int, altBB_bool, v_min, v_max, v_not, v_neg, optEv_none, optEv_some, isSome'_none, isSome'_some, pExt0, pExt1, pExt2, Bool.false_and, Bool.true_and, Bool.not_true, Bool.not_false, cond_true, cond_false, dops_nil, dops_none, xval_call, v_mov, v_bin, v_len, v_ext, v_idxA, v_ld, v_st, v_app, v_appN, v_cvs, v_bs1, pBs1, v_slc, v_conv, v_fld, v_fldA, v_new, v_box, v_mks, v_copy, v_isnil, v_nilck, v_pick, ev, evs_nil, evs_cons, fr_get_cons, fr_put_nil, fr_put_cons, fr_put_some, fr_put_none, fr_keep_nil, fr_keep_cons, fr_has_nil, fr_has_cons, Option.bind_some, Option.map_some, xbin, ibin, xresult_eq, xress_nil, xress_tmp, resV, ex_some, if_true, if_false, ite_true, ite_false, reduceIte, reduceCtorEq, Nat.reduceEqDiff, Nat.reduceLT, Nat.reduceLeDiff, Int.reduceLT, Int.reduceLE, Nat.zero_add, Nat.reduceAdd, Bool.false_eq_true, decide_eq_true_eq, decide_eq_false_iff_not, true_implies, false_implies, and_true, true_and, c2, decide_false]
  exact hq H' _ x
end Go.Proofs.Ytejedmocjdcdgaa.D

set_option linter.unusedSimpArgs false
set_option linter.unusedVariables false
namespace Go.Proofs.Ytejedmocjdcdgaa.D
open Go Go.Det

abbrev VSD := VL (List SD)
theorem sds_ones {H : AH} {v : Value} {l : List SD} (h : SDs H v l) : (SDL.cells l).all one = true := by
  refine all_flatMap _ _ fun s hs => ?_
  have := (slice_one (h.2 s hs)).1
  show ([.int .i64 s.tr, .int .i64 s.nu, s.w, .bool s.bad] : List Value).all one = true
  simp only [List.all_cons, List.all_nil, this, one_int, one_bool]; rfl
theorem mcheck_ok (a : Value) (ls : List (Value × List SD)) (H : AH) (Q : Value → AH → Prop) (ha : SL VSD H a ls) (hv : ∀ p ∈ ls, SDs H p.1 p.2) (hl : ls.length ≤ 20) (hp : ∀ p ∈ ls, p.2.length ≤ 12) (hs : ∀ p ∈ ls, ∀ s ∈ p.2, s.bs.length = 128) (hq : ∀ H', HExt H H' → Q (.int .i64 0) H') :
    Got (xc Try.prog tab 96 [a] H) Q := by
  refine got_call (res := [.tmp 2]) rfl ?_
  have e0 := SL.len_ok ha
  have c1 : ¬ (ls.length : Int) > 20 := by omega
  simp only [ofArgs, run_seq, run_block, run_ops, run_skip, run_exit, run_ret, thenQ_normal, thenQ_exit, thenQ_ret, blockQ_normal, blockQ_exit, blockQ_ret, retQ_ret, retQ_normal, ops_nil, ops_none, got_some, ops_wT, ops_wTn, ops_wF, ops_wFn, ops_wU, dops_wT, dops_wTn, dops_wF, dops_wFn, dops_wU, run_condT, run_condF, alt2_int, altB_bool, altI_int, altBB_bool, v_min, v_max, v_not, v_neg, optEv_none, optEv_some, isSome'_none, isSome'_some, pExt0, pExt1, pExt2, Bool.false_and, Bool.true_and, Bool.not_true, Bool.not_false, cond_true, cond_false, dops_nil, dops_none, xval_call, v_mov, v_bin, v_len, v_ext, v_idxA, v_ld, v_st, v_app, v_appN, v_cvs, v_bs1, pBs1, v_slc, v_conv, v_fld, v_fldA, v_new, v_box, v_mks, v_copy, v_isnil, v_nilck, v_pick, ev, evs_nil, evs_cons, fr_get_cons, fr_put_nil, fr_put_cons, fr_put_some, fr_put_none, fr_keep_nil, fr_keep_cons, fr_has_nil, fr_has_cons, Option.bind_some, Option.map_some, xbin, ibin, xresult_eq, xress_nil, xress_tmp, resV, ex_some, if_true, if_false, ite_true, ite_false, reduceIte, reduceCtorEq, Nat.reduceEqDiff, Nat.reduceLT, Nat.reduceLeDiff, Int.reduceLT, Int.reduceLE, Nat.zero_add, Nat.reduceAdd, Bool.false_eq_true, decide_eq_true_eq, decide_eq_false_iff_not, true_implies, false_implies, and_true, true_and, e0, c1, decide_false]
  refine run_inv (fun k fr H' => HExt H H' ∧ fr = [(10, a), (11, .int .i64 (ls.length : Int)), (12, .int .i64 (k : Int))]) ls.length ⟨HExt.refl H, rfl⟩ ?_ ?_
  · rintro k hk fr H1 ⟨x1, rfl⟩ J hJ
    obtain ⟨p, hpk⟩ : ∃ p, ls[k]? = some p := ⟨_, List.getElem?_eq_getElem hk⟩
    have hm := List.mem_of_getElem? hpk
    obtain ⟨f1, f2⟩ := vl_at (ha.ext x1) (k : Int) k rfl p hpk
    have hv1 := (hv p hm).ext x1
    have e1 := hv1.1.len_ok
    have hlt : (k : Int) < (ls.length : Int) := by omega
    have c2 : ¬ (p.2.length : Int) > 12 := by have := hp p hm; omega
    have w3 := wrS k (by omega)
    simp only [xmend_Check_l1, ofArgs, run_seq, run_block, run_ops, run_skip, run_exit, run_ret, thenQ_normal, thenQ_exit, thenQ_ret, blockQ_normal, blockQ_exit, blockQ_ret, retQ_ret, retQ_normal, ops_nil, ops_none, got_some, ops_wT, ops_wTn, ops_wF, ops_wFn, ops_wU, dops_wT, dops_wTn, dops_wF, dops_wFn, dops_wU, run_condT, run_condF, alt2_int, altB_bool, altI_int, altBB_bool, v_min, v_max, v_not, v_neg, optEv_none, optEv_some, isSome'_none, isSome'_some, pExt0, pExt1, pExt2, Bool.false_and, Bool.true_and, Bool.not_true, Bool.not_false, cond_true, cond_false, dops_nil, dops_none, xval_call, v_mov, v_bin, v_len, v_ext, v_idxA, v_ld, v_st, v_app, v_appN, v_cvs, v_bs1, pBs1, v_slc, v_conv, v_fld, v_fldA, v_new, v_box, v_mks, v_copy, v_isnil, v_nilck, v_pick, ev, evs_nil, evs_cons, fr_get_cons, fr_put_nil, fr_put_cons, fr_put_some, fr_put_none, fr_keep_nil, fr_keep_cons, fr_has_nil, fr_has_cons, Option.bind_some, Option.map_some, xbin, ibin, xresult_eq, xress_nil, xress_tmp, resV, ex_some, if_true, if_false, ite_true, ite_false, reduceIte, reduceCtorEq, Nat.reduceEqDiff, Nat.reduceLT, Nat.reduceLeDiff, Int.reduceLT, Int.reduceLE, Nat.zero_add, Nat.reduceAdd, Bool.false_eq_true, decide_eq_true_eq, decide_eq_false_iff_not, true_implies, false_implies, and_true, true_and, hlt, decide_true, f1, f2, e1, c2, decide_false]
    refine run_inv (fun j fr H' => HExt H1 H' ∧ fr = [(10, a), (11, .int .i64 (ls.length : Int)), (12, .int .i64 (k : Int)), (19, p.1), (20, .int .i64 (p.2.length : Int)), (21, .int .i64 (j : Int))]) p.2.length ⟨HExt.refl H1, rfl⟩ ?_ ?_
    · rintro j hj fr H2 ⟨x2, rfl⟩ J2 hJ2
      obtain ⟨s, hsj⟩ : ∃ s, p.2[j]? = some s := ⟨_, List.getElem?_eq_getElem hj⟩
      have hsm := List.mem_of_getElem? hsj
      have hv2 := hv1.ext x2
      have g1 := hv2.1.at .i64 (j : Int) j rfl hj
      have g2 := hv2.1.ldk j s hsj
      have hlt : (j : Int) < (p.2.length : Int) := by omega
      have hb := hv2.2 s hsm
      obtain ⟨o1, o2⟩ := slice_one hb
      have st := bxS_st H2 s o1
      have hx := bxS_ext H2 s
      have l2 := bx4_2 (bxS_get H2 s)
      have e3 := byts_len' (Sl.ext hx hb : Byts (bxS H2 s) s.w s.bs)
      have h128 := hs p hm s hsm
      rw [h128] at e3
      have hl12 := hp p hm
      have w4 := wrS j (by omega)
      have n128 : ((128 : Nat) : Int) = 128 := rfl
      have g1' : pIdx 4 p.1 (.int .i64 (j : Int)) H2 = some (ptrAt p.1 (j * 4), H2) := g1
      have g2' : pLd (some 4) (ptrAt p.1 (j * 4)) H2 = some (.agg #[.int .i64 s.tr, .int .i64 s.nu, s.w, .bool s.bad], H2) := g2
      simp only [xmend_Check_l0, ofArgs, run_seq, run_block, run_ops, run_skip, run_exit, run_ret, thenQ_normal, thenQ_exit, thenQ_ret, blockQ_normal, blockQ_exit, blockQ_ret, retQ_ret, retQ_normal, ops_nil, ops_none, got_some, ops_wT, ops_wTn, ops_wF, ops_wFn, ops_wU, dops_wT, dops_wTn, dops_wF, dops_wFn, dops_wU, run_condT, run_condF, alt2_int, altB_bool, altI_int, altBB_bool, v_min, v_max, v_not, v_neg, optEv_none, optEv_some, isSome'_none, isSome'_some, pExt0, pExt1, pExt2, Bool.false_and, Bool.true_and, Bool.not_true, Bool.not_false, cond_true, cond_false, dops_nil, dops_none, xval_call, v_mov, v_bin, v_len, v_ext, v_idxA, v_ld, v_st, v_app, v_appN, v_cvs, v_bs1, pBs1, v_slc, v_conv, v_fld, v_fldA, v_new, v_box, v_mks, v_copy, v_isnil, v_nilck, v_pick, ev, evs_nil, evs_cons, fr_get_cons, fr_put_nil, fr_put_cons, fr_put_some, fr_put_none, fr_keep_nil, fr_keep_cons, fr_has_nil, fr_has_cons, Option.bind_some, Option.map_some, xbin, ibin, xresult_eq, xress_nil, xress_tmp, resV, ex_some, if_true, if_false, ite_true, ite_false, reduceIte, reduceCtorEq, Nat.reduceEqDiff, Nat.reduceLT, Nat.reduceLeDiff, Int.reduceLT, Int.reduceLE, Nat.zero_add, Nat.reduceAdd, Bool.false_eq_true, decide_eq_true_eq, decide_eq_false_iff_not, true_implies, false_implies, and_true, true_and, hlt, decide_true, g1', g2', st, fldA2, l2, e3, n128, bne_self_eq_false, w4]
      exact hJ2 _ _ ⟨x2.trans hx, rfl⟩
    · rintro fr H2 ⟨x2, rfl⟩
      simp only [xmend_Check_l0, ofArgs, run_seq, run_block, run_ops, run_skip, run_exit, run_ret, thenQ_normal, thenQ_exit, thenQ_ret, blockQ_normal, blockQ_exit, blockQ_ret, retQ_ret, retQ_normal, ops_nil, ops_none, got_some, ops_wT, ops_wTn, ops_wF, ops_wFn, ops_wU, dops_wT, dops_wTn, dops_wF, dops_wFn, dops_wU, run_condT, run_condF, alt2_int, altB_bool, altI_int, altBB_bool, v_min, v_max, v_not, v_neg, optEv_none, optEv_some, isSome'_none, isSome'_some, pExt0, pExt1, pExt2, Bool.false_and, Bool.true_and, Bool.not_true, Bool.not_false, cond_true, cond_false, dops_nil, dops_none, xval_call, v_mov, v_bin, v_len, v_ext, v_idxA, v_ld, v_st, v_app, v_appN, v_cvs, v_bs1, pBs1, v_slc, v_conv, v_fld, v_fldA, v_new, v_box, v_mks, v_copy, v_isnil, v_nilck, v_pick, ev, evs_nil, evs_cons, fr_get_cons, fr_put_nil, fr_put_cons, fr_put_some, fr_put_none, fr_keep_nil, fr_keep_cons, fr_has_nil, fr_has_cons, Option.bind_some, Option.map_some, xbin, ibin, xresult_eq, xress_nil, xress_tmp, resV, ex_some, if_true, if_false, ite_true, ite_false, reduceIte, reduceCtorEq, Nat.reduceEqDiff, Nat.reduceLT, Nat.reduceLeDiff, Int.reduceLT, Int.reduceLE, Nat.zero_add, Nat.reduceAdd, Bool.false_eq_true, decide_eq_true_eq, decide_eq_false_iff_not, true_implies, false_implies, and_true, true_and, Int.lt_irrefl, decide_false, w3]
      exact hJ _ _ ⟨x1.trans x2, rfl⟩
  · rintro fr H1 ⟨x1, rfl⟩
    simp only [xmend_Check_l1, ofArgs, run_seq, run_block, run_ops, run_skip, run_exit, run_ret, thenQ_normal, thenQ_exit, thenQ_ret, blockQ_normal, blockQ_exit, blockQ_ret, retQ_ret, retQ_normal, ops_nil, ops_none, got_some, ops_wT, ops_wTn, ops_wF, ops_wFn, ops_wU, dops_wT, dops_wTn, dops_wF, dops_wFn, dops_wU, run_condT, run_condF, alt2_int, altB_bool, altI_int, altBB_bool, v_min, v_max, v_not, v_neg, optEv_none, optEv_some, isSome'_none, isSome'_some, pExt0, pExt1, pExt2, Bool.false_and, Bool.true_and, Bool.not_true, Bool.not_false, cond_true, cond_false, dops_nil, dops_none, xval_call, v_mov, v_bin, v_len, v_ext, v_idxA, v_ld, v_st, v_app, v_appN, v_cvs, v_bs1, pBs1, v_slc, v_conv, v_fld, v_fldA, v_new, v_box, v_mks, v_copy, v_isnil, v_nilck, v_pick, ev, evs_nil, evs_cons, fr_get_cons, fr_put_nil, fr_put_cons, fr_put_some, fr_put_none, fr_keep_nil, fr_keep_cons, fr_has_nil, fr_has_cons, Option.bind_some, Option.map_some, xbin, ibin, xresult_eq, xress_nil, xress_tmp, resV, ex_some, if_true, if_false, ite_true, ite_false, reduceIte, reduceCtorEq, Nat.reduceEqDiff, Nat.reduceLT, Nat.reduceLeDiff, Int.reduceLT, Int.reduceLE, Nat.zero_add, Nat.reduceAdd, Bool.false_eq_true, decide_eq_true_eq, decide_eq_false_iff_not, true_implies, false_implies, and_true, true_and, Int.lt_irrefl, decide_false]
    exact hq _ x1
theorem growM_ok (n : Nat) (hn : n ≤ 100000) (H : AH) (Q : Value → AH → Prop) (hq : ∀ v H', OL SDL H.n H' v [] → HExt H H' → Q v H') :
    Got (xc Try.prog tab 128 [.slice none 0 0, .int .i64 (n : Int)] H) Q := by
  refine got_call (res := [.tmp 4]) rfl ?_
  have c1 : ¬ (n : Int) < 0 := by omega
  have w0 : IntKind.i64.wrap (0 - 0) = 0 := rfl
  have w1 := wrI ((n : Int) - 0) (by omega) (by omega)
  have x0 : xslc H 4 (.slice none 0 0) none (some (.int .i64 0)) none = some (.slice none 0 0) := rfl
  by_cases h0 : (n : Int) > 0
  · have c2 : (n : Int) - 0 > 0 := by omega
    simp only [ofArgs, run_seq, run_block, run_ops, run_skip, run_exit, run_ret, thenQ_normal, thenQ_exit, thenQ_ret, blockQ_normal, blockQ_exit, blockQ_ret, retQ_ret, retQ_normal, ops_nil, ops_none, got_some, ops_wT, ops_wTn, ops_wF, ops_wFn, ops_wU, dops_wT, dops_wTn, dops_wF, dops_wFn, dops_wU, run_condT, run_condF, alt2_int, altB_bool, altI_int, altBB_bool, v_min, v_max, v_not, v_neg, optEv_none, optEv_some, isSome'_none, isSome'_some, pExt0, pExt1, pExt2, Bool.false_and, Bool.true_and, Bool.not_true, Bool.not_false, cond_true, cond_false, dops_nil, dops_none, xval_call, v_mov, v_bin, v_len, v_ext, v_idxA, v_ld, v_st, v_app, v_appN, v_cvs, v_bs1, pBs1, v_slc, v_conv, v_fld, v_fldA, v_new, v_box, v_mks, v_copy, v_isnil, v_nilck, v_pick, ev, evs_nil, evs_cons, fr_get_cons, fr_put_nil, fr_put_cons, fr_put_some, fr_put_none, fr_keep_nil, fr_keep_cons, fr_has_nil, fr_has_cons, Option.bind_some, Option.map_some, xbin, ibin, xresult_eq, xress_nil, xress_tmp, resV, ex_some, if_true, if_false, ite_true, ite_false, reduceIte, reduceCtorEq, Nat.reduceEqDiff, Nat.reduceLT, Nat.reduceLeDiff, Int.reduceLT, Int.reduceLE, Nat.zero_add, Nat.reduceAdd, Bool.false_eq_true, decide_eq_true_eq, decide_eq_false_iff_not, true_implies, false_implies, and_true, true_and, v_cap, pCap_nil, pLen, c1, c2, w0, w1, x0, decide_true, decide_false, Int.ofNat_eq_natCast, Int.natCast_zero, Int.cast_ofNat_Int]
    rw [Int.sub_zero]
    refine xappN_own (Own.nil H.n 4 H) (Nat.le_refl _) rfl ?_ (by decide) (by decide) (by omega) ?_
    · clear h0 c2 w1 c1 hn
      induction n with
      | zero => rfl
      | succ n ih => 
        show (([.int .i64 0, .int .i64 0, .slice none 0 0, .bool false] : List Value) ++ rep n [.int .i64 0, .int .i64 0, .slice none 0 0, .bool false]).all one = true
        rw [List.all_append, ih]; rfl
    intro v H' ho hs
    obtain ⟨s', k1, k2, k3, k4⟩ := xslc_ok (lo := none) (hi := some (.int .i64 0)) (i := 0) (h := 0) ho.1 rfl rfl (Nat.le_refl _) (Nat.zero_le _)
    simp only [k1, Option.map_some, got_some]
    refine hq s' H' ?_ (hs.keep (Own.nil H.n 4 H) (Nat.le_refl _))
    have := k4 H.n ho
    exact show Own H.n 4 H' s' 0 [] by simpa using this
  · have c2 : ¬ (n : Int) - 0 > 0 := by omega
    simp only [ofArgs, run_seq, run_block, run_ops, run_skip, run_exit, run_ret, thenQ_normal, thenQ_exit, thenQ_ret, blockQ_normal, blockQ_exit, blockQ_ret, retQ_ret, retQ_normal, ops_nil, ops_none, got_some, ops_wT, ops_wTn, ops_wF, ops_wFn, ops_wU, dops_wT, dops_wTn, dops_wF, dops_wFn, dops_wU, run_condT, run_condF, alt2_int, altB_bool, altI_int, altBB_bool, v_min, v_max, v_not, v_neg, optEv_none, optEv_some, isSome'_none, isSome'_some, pExt0, pExt1, pExt2, Bool.false_and, Bool.true_and, Bool.not_true, Bool.not_false, cond_true, cond_false, dops_nil, dops_none, xval_call, v_mov, v_bin, v_len, v_ext, v_idxA, v_ld, v_st, v_app, v_appN, v_cvs, v_bs1, pBs1, v_slc, v_conv, v_fld, v_fldA, v_new, v_box, v_mks, v_copy, v_isnil, v_nilck, v_pick, ev, evs_nil, evs_cons, fr_get_cons, fr_put_nil, fr_put_cons, fr_put_some, fr_put_none, fr_keep_nil, fr_keep_cons, fr_has_nil, fr_has_cons, Option.bind_some, Option.map_some, xbin, ibin, xresult_eq, xress_nil, xress_tmp, resV, ex_some, if_true, if_false, ite_true, ite_false, reduceIte, reduceCtorEq, Nat.reduceEqDiff, Nat.reduceLT, Nat.reduceLeDiff, Int.reduceLT, Int.reduceLE, Nat.zero_add, Nat.reduceAdd, Bool.false_eq_true, decide_eq_true_eq, decide_eq_false_iff_not, true_implies, false_implies, and_true, true_and, v_cap, pCap_nil, pLen, c1, c2, w0, w1, x0, decide_true, decide_false, Int.ofNat_eq_natCast, Int.natCast_zero, Int.cast_ofNat_Int]
    exact hq _ H (OL.nil _ _ _) (.refl H)
def flt (ls : List (Value × List SD)) : List SD := ls.flatMap (·.2)
theorem flt_succ (ls : List (Value × List SD)) (k : Nat) (p : Value × List SD) (h : ls[k]? = some p) : flt (ls.take (k + 1)) = flt (ls.take k) ++ p.2 := by
  unfold flt
  rw [take_succ_at _ _ _ h, List.flatMap_append]; simp
theorem flt_le (ls : List (Value × List SD)) (k : Nat) : (flt (ls.take k)).length ≤ (flt ls).length := by
  have h : ls = ls.take k ++ ls.drop k := (List.take_append_drop k ls).symm
  have : flt ls = flt (ls.take k) ++ flt (ls.drop k) := by
    unfold flt
    rw [← List.flatMap_append, List.take_append_drop]
  rw [this, List.length_append]; omega
theorem concatM_ok (a : Value) (ls : List (Value × List SD)) (H : AH) (Q : Value → AH → Prop) (ha : SL VSD H a ls) (hv : ∀ p ∈ ls, SDs H p.1 p.2) (hl : ls.length ≤ 20) (ht : (flt ls).length ≤ 1000) (hq : ∀ v H', SDs H' v (flt ls) → HExt H H' → Q v H') :
    Got (xc Try.prog tab 97 [a] H) Q := by
  refine got_call (res := [.tmp 2]) rfl ?_
  have e0 := SL.len_ok ha
  simp only [ofArgs, run_seq, run_block, run_ops, run_skip, run_exit, run_ret, thenQ_normal, thenQ_exit, thenQ_ret, blockQ_normal, blockQ_exit, blockQ_ret, retQ_ret, retQ_normal, ops_nil, ops_none, got_some, ops_wT, ops_wTn, ops_wF, ops_wFn, ops_wU, dops_wT, dops_wTn, dops_wF, dops_wFn, dops_wU, run_condT, run_condF, alt2_int, altB_bool, altI_int, altBB_bool, v_min, v_max, v_not, v_neg, optEv_none, optEv_some, isSome'_none, isSome'_some, pExt0, pExt1, pExt2, Bool.false_and, Bool.true_and, Bool.not_true, Bool.not_false, cond_true, cond_false, dops_nil, dops_none, xval_call, v_mov, v_bin, v_len, v_ext, v_idxA, v_ld, v_st, v_app, v_appN, v_cvs, v_bs1, pBs1, v_slc, v_conv, v_fld, v_fldA, v_new, v_box, v_mks, v_copy, v_isnil, v_nilck, v_pick, ev, evs_nil, evs_cons, fr_get_cons, fr_put_nil, fr_put_cons, fr_put_some, fr_put_none, fr_keep_nil, fr_keep_cons, fr_has_nil, fr_has_cons, Option.bind_some, Option.map_some, xbin, ibin, xresult_eq, xress_nil, xress_tmp, resV, ex_some, if_true, if_false, ite_true, ite_false, reduceIte, reduceCtorEq, Nat.reduceEqDiff, Nat.reduceLT, Nat.reduceLeDiff, Int.reduceLT, Int.reduceLE, Nat.zero_add, Nat.reduceAdd, Bool.false_eq_true, decide_eq_true_eq, decide_eq_false_iff_not, true_implies, false_implies, and_true, true_and, e0]
  refine run_inv (fun k fr H' => H' = H ∧ fr = [(0, a), (3, .int .i64 ((flt (ls.take k)).length : Int)), (9, a), (10, .int .i64 (ls.length : Int)), (11, .int .i64 (k : Int))]) ls.length ⟨rfl, rfl⟩ ?_ ?_
  · rintro k hk fr H1 ⟨rfl, rfl⟩ J hJ
    obtain ⟨p, hpk⟩ : ∃ p, ls[k]? = some p := ⟨_, List.getElem?_eq_getElem hk⟩
    have hm := List.mem_of_getElem? hpk
    obtain ⟨f1, f2⟩ := vl_at ha (k : Int) k rfl p hpk
    have e1 := (hv p hm).1.len_ok
    have hlt : (k : Int) < (ls.length : Int) := by omega
    have fs := flt_succ ls k p hpk
    have fl := flt_le ls (k + 1)
    rw [fs, List.length_append] at fl
    have w2 : IntKind.i64.wrap (((flt (ls.take k)).length : Int) + (p.2.length : Int)) = ((flt (ls.take (k + 1))).length : Int) := by rw [wrI _ (by omega) (by omega), fs, List.length_append]; omega
    have w3 := wrS k (by omega)
    have c2 : ¬ ((flt (ls.take (k + 1))).length : Int) < 0 := by omega
    simp only [xslices_Concat_Sapi_SectorData_api_SectorData_l0, ofArgs, run_seq, run_block, run_ops, run_skip, run_exit, run_ret, thenQ_normal, thenQ_exit, thenQ_ret, blockQ_normal, blockQ_exit, blockQ_ret, retQ_ret, retQ_normal, ops_nil, ops_none, got_some, ops_wT, ops_wTn, ops_wF, ops_wFn, ops_wU, dops_wT, dops_wTn, dops_wF, dops_wFn, dops_wU, run_condT, run_condF, alt2_int, altB_bool, altI_int, altBB_bool, v_min, v_max, v_not, v_neg, optEv_none, optEv_some, isSome'_none, isSome'_some, pExt0, pExt1, pExt2, Bool.false_and, Bool.true_and, Bool.not_true, Bool.not_false, cond_true, cond_false, dops_nil, dops_none, xval_call, v_mov, v_bin, v_len, v_ext, v_idxA, v_ld, v_st, v_app, v_appN, v_cvs, v_bs1, pBs1, v_slc, v_conv, v_fld, v_fldA, v_new, v_box, v_mks, v_copy, v_isnil, v_nilck, v_pick, ev, evs_nil, evs_cons, fr_get_cons, fr_put_nil, fr_put_cons, fr_put_some, fr_put_none, fr_keep_nil, fr_keep_cons, fr_has_nil, fr_has_cons, Option.bind_some, Option.map_some, xbin, ibin, xresult_eq, xress_nil, xress_tmp, resV, ex_some, if_true, if_false, ite_true, ite_false, reduceIte, reduceCtorEq, Nat.reduceEqDiff, Nat.reduceLT, Nat.reduceLeDiff, Int.reduceLT, Int.reduceLE, Nat.zero_add, Nat.reduceAdd, Bool.false_eq_true, decide_eq_true_eq, decide_eq_false_iff_not, true_implies, false_implies, and_true, true_and, hlt, decide_true, f1, f2, e1, w2, c2, decide_false, w3]
    exact hJ _ _ ⟨rfl, rfl⟩
  · rintro fr H1 ⟨rfl, rfl⟩
    simp only [xslices_Concat_Sapi_SectorData_api_SectorData_l0, ofArgs, run_seq, run_block, run_ops, run_skip, run_exit, run_ret, thenQ_normal, thenQ_exit, thenQ_ret, blockQ_normal, blockQ_exit, blockQ_ret, retQ_ret, retQ_normal, ops_nil, ops_none, got_some, ops_wT, ops_wTn, ops_wF, ops_wFn, ops_wU, dops_wT, dops_wTn, dops_wF, dops_wFn, dops_wU, run_condT, run_condF, alt2_int, altB_bool, altI_int, altBB_bool, v_min, v_max, v_not, v_neg, optEv_none, optEv_some, isSome'_none, isSome'_some, pExt0, pExt1, pExt2, Bool.false_and, Bool.true_and, Bool.not_true, Bool.not_false, cond_true, cond_false, dops_nil, dops_none, xval_call, v_mov, v_bin, v_len, v_ext, v_idxA, v_ld, v_st, v_app, v_appN, v_cvs, v_bs1, pBs1, v_slc, v_conv, v_fld, v_fldA, v_new, v_box, v_mks, v_copy, v_isnil, v_nilck, v_pick, ev, evs_nil, evs_cons, fr_get_cons, fr_put_nil, fr_put_cons, fr_put_some, fr_put_none, fr_keep_nil, fr_keep_cons, fr_has_nil, fr_has_cons, Option.bind_some, Option.map_some, xbin, ibin, xresult_eq, xress_nil, xress_tmp, resV, ex_some, if_true, if_false, ite_true, ite_false, reduceIte, reduceCtorEq, Nat.reduceEqDiff, Nat.reduceLT, Nat.reduceLeDiff, Int.reduceLT, Int.reduceLE, Nat.zero_add, Nat.reduceAdd, Bool.false_eq_true, decide_eq_true_eq, decide_eq_false_iff_not, true_implies, false_implies, and_true, true_and, Int.lt_irrefl, decide_false]
    refine growM_ok _ (by have := flt_le ls ls.length; omega) H1 _ ?_
    intro v1 H2 o2 x2
    have e2 := SL.len_ok (ha.ext x2)
    simp only [ofArgs, run_seq, run_block, run_ops, run_skip, run_exit, run_ret, thenQ_normal, thenQ_exit, thenQ_ret, blockQ_normal, blockQ_exit, blockQ_ret, retQ_ret, retQ_normal, ops_nil, ops_none, got_some, ops_wT, ops_wTn, ops_wF, ops_wFn, ops_wU, dops_wT, dops_wTn, dops_wF, dops_wFn, dops_wU, run_condT, run_condF, alt2_int, altB_bool, altI_int, altBB_bool, v_min, v_max, v_not, v_neg, optEv_none, optEv_some, isSome'_none, isSome'_some, pExt0, pExt1, pExt2, Bool.false_and, Bool.true_and, Bool.not_true, Bool.not_false, cond_true, cond_false, dops_nil, dops_none, xval_call, v_mov, v_bin, v_len, v_ext, v_idxA, v_ld, v_st, v_app, v_appN, v_cvs, v_bs1, pBs1, v_slc, v_conv, v_fld, v_fldA, v_new, v_box, v_mks, v_copy, v_isnil, v_nilck, v_pick, ev, evs_nil, evs_cons, fr_get_cons, fr_put_nil, fr_put_cons, fr_put_some, fr_put_none, fr_keep_nil, fr_keep_cons, fr_has_nil, fr_has_cons, Option.bind_some, Option.map_some, xbin, ibin, xresult_eq, xress_nil, xress_tmp, resV, ex_some, if_true, if_false, ite_true, ite_false, reduceIte, reduceCtorEq, Nat.reduceEqDiff, Nat.reduceLT, Nat.reduceLeDiff, Int.reduceLT, Int.reduceLE, Nat.zero_add, Nat.reduceAdd, Bool.false_eq_true, decide_eq_true_eq, decide_eq_false_iff_not, true_implies, false_implies, and_true, true_and, e2]
    refine run_inv (fun k fr H' => ∃ v, OL SDL H1.n H' v (flt (ls.take k)) ∧ HExt H1 H' ∧ fr = [(6, v), (25, a), (26, .int .i64 (ls.length : Int)), (27, .int .i64 (k : Int))]) ls.length ⟨v1, o2, x2, rfl⟩ ?_ ?_
    · rintro k hk fr H3 ⟨v, o3, x3, rfl⟩ J hJ
      obtain ⟨p, hpk⟩ : ∃ p, ls[k]? = some p := ⟨_, List.getElem?_eq_getElem hk⟩
      have hm := List.mem_of_getElem? hpk
      obtain ⟨f1, f2⟩ := vl_at (ha.ext x3) (k : Int) k rfl p hpk
      have hlt : (k : Int) < (ls.length : Int) := by omega
      have fs := flt_succ ls k p hpk
      have fl := flt_le ls (k + 1)
      rw [fs, List.length_append] at fl
      have w3 := wrS k (by omega)
      have hvp := (hv p hm).ext x3
      simp only [xslices_Concat_Sapi_SectorData_api_SectorData_l1, ofArgs, run_seq, run_block, run_ops, run_skip, run_exit, run_ret, thenQ_normal, thenQ_exit, thenQ_ret, blockQ_normal, blockQ_exit, blockQ_ret, retQ_ret, retQ_normal, ops_nil, ops_none, got_some, ops_wT, ops_wTn, ops_wF, ops_wFn, ops_wU, dops_wT, dops_wTn, dops_wF, dops_wFn, dops_wU, run_condT, run_condF, alt2_int, altB_bool, altI_int, altBB_bool, v_min, v_max, v_not, v_neg, optEv_none, optEv_some, isSome'_none, isSome'_some, pExt0, pExt1, pExt2, Bool.false_and, Bool.true_and, Bool.not_true, Bool.not_false, cond_true, cond_false, dops_nil, dops_none, xval_call, v_mov, v_bin, v_len, v_ext, v_idxA, v_ld, v_st, v_app, v_appN, v_cvs, v_bs1, pBs1, v_slc, v_conv, v_fld, v_fldA, v_new, v_box, v_mks, v_copy, v_isnil, v_nilck, v_pick, ev, evs_nil, evs_cons, fr_get_cons, fr_put_nil, fr_put_cons, fr_put_some, fr_put_none, fr_keep_nil, fr_keep_cons, fr_has_nil, fr_has_cons, Option.bind_some, Option.map_some, xbin, ibin, xresult_eq, xress_nil, xress_tmp, resV, ex_some, if_true, if_false, ite_true, ite_false, reduceIte, reduceCtorEq, Nat.reduceEqDiff, Nat.reduceLT, Nat.reduceLeDiff, Int.reduceLT, Int.reduceLE, Nat.zero_add, Nat.reduceAdd, Bool.false_eq_true, decide_eq_true_eq, decide_eq_false_iff_not, true_implies, false_implies, and_true, true_and, hlt, decide_true, f1, f2]
      refine OL.app o3 x3.1 hvp.1 (sds_ones hvp) 48 (by decide) (by omega) ?_
      intro v' H4 o4 k4 _ _ _
      simp only [ofArgs, run_seq, run_block, run_ops, run_skip, run_exit, run_ret, thenQ_normal, thenQ_exit, thenQ_ret, blockQ_normal, blockQ_exit, blockQ_ret, retQ_ret, retQ_normal, ops_nil, ops_none, got_some, ops_wT, ops_wTn, ops_wF, ops_wFn, ops_wU, dops_wT, dops_wTn, dops_wF, dops_wFn, dops_wU, run_condT, run_condF, alt2_int, altB_bool, altI_int, altBB_bool, v_min, v_max, v_not, v_neg, optEv_none, optEv_some, isSome'_none, isSome'_some, pExt0, pExt1, pExt2, Bool.false_and, Bool.true_and, Bool.not_true, Bool.not_false, cond_true, cond_false, dops_nil, dops_none, xval_call, v_mov, v_bin, v_len, v_ext, v_idxA, v_ld, v_st, v_app, v_appN, v_cvs, v_bs1, pBs1, v_slc, v_conv, v_fld, v_fldA, v_new, v_box, v_mks, v_copy, v_isnil, v_nilck, v_pick, ev, evs_nil, evs_cons, fr_get_cons, fr_put_nil, fr_put_cons, fr_put_some, fr_put_none, fr_keep_nil, fr_keep_cons, fr_has_nil, fr_has_cons, Option.bind_some, Option.map_some, xbin, ibin, xresult_eq, xress_nil, xress_tmp, resV, ex_some, if_true, if_false, ite_true, ite_false, reduceIte, reduceCtorEq, Nat.reduceEqDiff, Nat.reduceLT, Nat.reduceLeDiff, Int.reduceLT, Int.reduceLE, Nat.zero_add, Nat.reduceAdd, Bool.false_eq_true, decide_eq_true_eq, decide_eq_false_iff_not, true_implies, false_implies, and_true, true_and, w3]
      exact hJ _ _ ⟨v', by rw [fs]; exact o4, Keep.trans (n0 := H1.n) x3 k4, rfl⟩
    · rintro fr H3 ⟨v, o3, x3, rfl⟩
      rw [List.take_length] at o3
      simp only [xslices_Concat_Sapi_SectorData_api_SectorData_l1, ofArgs, run_seq, run_block, run_ops, run_skip, run_exit, run_ret, thenQ_normal, thenQ_exit, thenQ_ret, blockQ_normal, blockQ_exit, blockQ_ret, retQ_ret, retQ_normal, ops_nil, ops_none, got_some, ops_wT, ops_wTn, ops_wF, ops_wFn, ops_wU, dops_wT, dops_wTn, dops_wF, dops_wFn, dops_wU, run_condT, run_condF, alt2_int, altB_bool, altI_int, altBB_bool, v_min, v_max, v_not, v_neg, optEv_none, optEv_some, isSome'_none, isSome'_some, pExt0, pExt1, pExt2, Bool.false_and, Bool.true_and, Bool.not_true, Bool.not_false, cond_true, cond_false, dops_nil, dops_none, xval_call, v_mov, v_bin, v_len, v_ext, v_idxA, v_ld, v_st, v_app, v_appN, v_cvs, v_bs1, pBs1, v_slc, v_conv, v_fld, v_fldA, v_new, v_box, v_mks, v_copy, v_isnil, v_nilck, v_pick, ev, evs_nil, evs_cons, fr_get_cons, fr_put_nil, fr_put_cons, fr_put_some, fr_put_none, fr_keep_nil, fr_keep_cons, fr_has_nil, fr_has_cons, Option.bind_some, Option.map_some, xbin, ibin, xresult_eq, xress_nil, xress_tmp, resV, ex_some, if_true, if_false, ite_true, ite_false, reduceIte, reduceCtorEq, Nat.reduceEqDiff, Nat.reduceLT, Nat.reduceLeDiff, Int.reduceLT, Int.reduceLE, Nat.zero_add, Nat.reduceAdd, Bool.false_eq_true, decide_eq_true_eq, decide_eq_false_iff_not, true_implies, false_implies, and_true, true_and, Int.lt_irrefl, decide_false]
      refine hq v H3 ⟨o3.1, fun s hs => ?_⟩ x3
      obtain ⟨p, hp, hsp⟩ := List.mem_flatMap.1 hs
      exact Sl.ext x3 ((hv p hp).2 s hsp)
end Go.Proofs.Ytejedmocjdcdgaa.D

set_option linter.unusedSimpArgs false
set_option linter.unusedVariables false
namespace Go.Proofs.Ytejedmocjdcdgaa.D
open Go Go.Det

theorem rep1 (zs : List Value) : rep 1 zs = zs := by simp [rep]
set_option maxHeartbeats 1000000 in
theorem mjoin_ok (a : Value) (ls : List (Value × List SD)) (H : AH) (Q : Value → AH → Prop) (ha : SL VSD H a ls) (hv : ∀ p ∈ ls, SDs H p.1 p.2) (hl : ls.length ≤ 20) (hp : ∀ p ∈ ls, p.2.length ≤ 12) (s0 : SD) (l0 : List SD) (hfl : flt ls = s0 :: l0)
    (hok : ∀ s ∈ s0 :: l0, B8 s.bs ∧ s.bs.length = 128) (hlen : (s0 :: l0).length < 20) (hsame : ∀ s ∈ s0 :: l0, ∀ t ∈ s0 :: l0, s.tr = t.tr ∧ s.nu = t.nu)
    (hq : ∀ H' vo w f bs bad, HExt H H' → Sl H' 7 vo 1 [.int .i64 s0.tr, .int .i64 s0.nu, w, .bool bad, .int .i64 ((s0 :: l0).length : Int), .int .i64 (((s0 :: l0).countP fun s => decide (s.bs = bs) : Nat) : Int), .int .i64 (nT f)] → Byts H' w bs → GoodF (s0 :: l0) f → f.length = 128 →
      (((∀ s ∈ s0 :: l0, s.bad = true) ∧ bad = true ∧ bs = f.map Prod.fst) ∨ (∃ p1 s p2, s0 :: l0 = p1 ++ s :: p2 ∧ s.bad = false ∧ (∀ t ∈ p1, t.bad = true) ∧ bad = false ∧ bs = s.bs)) → Q (.tuple [vo, .int .i64 0].toArray) H') :
    Got (xc Try.prog tab 48 [a] H) Q := by
  refine got_call (res := [.tmp 2, .tmp 3]) rfl ?_
  have h128 : ∀ p ∈ ls, ∀ s ∈ p.2, s.bs.length = 128 := fun p hp s hs => (hok s (by rw [← hfl]; exact List.mem_flatMap.2 ⟨p, hp, hs⟩)).2
  generalize hT : ((.seq (.seq (.ops [⟨some 9, .mov (.tmp 0), none⟩, ⟨some 10, .call 96 [.tmp 9], none⟩, ⟨some 4, .mov (.tmp 10), none⟩] [0, 4]) (.seq (.ops [⟨some 11, .mov (.tmp 4), none⟩, ⟨some 12, .bin .neq (.tmp 11) (.const (.int .i64 0)), none⟩] [0, 4, 12]) (.cond (.tmp 12) (.seq (.ops [⟨some 13, .mov (.tmp 4), none⟩, ⟨some 2, .mov (.const (.slice none 0 0)), none⟩, ⟨some 3, .mov (.tmp 13), none⟩] [2, 3]) .ret) .skip))) (.seq (.ops [⟨some 14, .mov (.tmp 0), none⟩, ⟨some 15, .call 97 [.tmp 14], none⟩, ⟨some 5, .mov (.tmp 15), none⟩] [5]) (.seq (.ops [⟨some 16, .mov (.tmp 5), none⟩, ⟨some 17, .call 98 [.tmp 16, .func 99], none⟩] [5]) (.seq (.ops [⟨some 6, .mov (.const (.slice none 0 0)), none⟩] [5, 6]) (.seq (.seq (.ops [⟨some 7, .mov (.const (.int .i64 0)), none⟩] [5, 6, 7]) (.block 0 (.loop xmend_Join_l1))) (.seq (.ops [⟨some 64, .mov (.tmp 6), none⟩, ⟨some 2, .mov (.tmp 64), none⟩, ⟨some 3, .mov (.const (.int .i64 0)), none⟩] [2, 3]) .ret)))))) : XCode) = T
  simp only [ofArgs, run_seq, run_block, run_ops, run_skip, run_exit, run_ret, thenQ_normal, thenQ_exit, thenQ_ret, blockQ_normal, blockQ_exit, blockQ_ret, retQ_ret, retQ_normal, ops_nil, ops_none, got_some, ops_wT, ops_wTn, ops_wF, ops_wFn, ops_wU, dops_wT, dops_wTn, dops_wF, dops_wFn, dops_wU, run_condT, run_condF, alt2_int, altB_bool, altI_int, altBB_bool, v_min, v_max, v_not, v_neg, optEv_none, optEv_some, isSome'_none, isSome'_some, pExt0, pExt1, pExt2, Bool.false_and, Bool.true_and, Bool.not_true, Bool.not_false, cond_true, cond_false, dops_nil, dops_none, xval_call, v_mov, v_bin, v_len, v_ext, v_idxA, v_ld, v_st, v_app, v_appN, v_cvs, v_bs1, pBs1, v_slc, v_conv, v_fld, v_fldA, v_new, v_box, v_mks, v_copy, v_isnil, v_nilck, v_pick, ev, evs_nil, evs_cons, fr_get_cons, fr_put_nil, fr_put_cons, fr_put_some, fr_put_none, fr_keep_nil, fr_keep_cons, fr_has_nil, fr_has_cons, Option.bind_some, Option.map_some, xbin, ibin, xresult_eq, xress_nil, xress_tmp, resV, ex_some, if_true, if_false, ite_true, ite_false, reduceIte, reduceCtorEq, Nat.reduceEqDiff, Nat.reduceLT, Nat.reduceLeDiff, Int.reduceLT, Int.reduceLE, Nat.zero_add, Nat.reduceAdd, Bool.false_eq_true, decide_eq_true_eq, decide_eq_false_iff_not, true_implies, false_implies, and_true, true_and]
  subst hT
  generalize hT : ((.seq (.ops [⟨some 14, .mov (.tmp 0), none⟩, ⟨some 15, .call 97 [.tmp 14], none⟩, ⟨some 5, .mov (.tmp 15), none⟩] [5]) (.seq (.ops [⟨some 16, .mov (.tmp 5), none⟩, ⟨some 17, .call 98 [.tmp 16, .func 99], none⟩] [5]) (.seq (.ops [⟨some 6, .mov (.const (.slice none 0 0)), none⟩] [5, 6]) (.seq (.seq (.ops [⟨some 7, .mov (.const (.int .i64 0)), none⟩] [5, 6, 7]) (.block 0 (.loop xmend_Join_l1))) (.seq (.ops [⟨some 64, .mov (.tmp 6), none⟩, ⟨some 2, .mov (.tmp 64), none⟩, ⟨some 3, .mov (.const (.int .i64 0)), none⟩] [2, 3]) .ret))))) : XCode) = T
  simp only [ofArgs, run_seq, run_block, run_ops, run_skip, run_exit, run_ret, thenQ_normal, thenQ_exit, thenQ_ret, blockQ_normal, blockQ_exit, blockQ_ret, retQ_ret, retQ_normal, ops_nil, ops_none, got_some, ops_wT, ops_wTn, ops_wF, ops_wFn, ops_wU, dops_wT, dops_wTn, dops_wF, dops_wFn, dops_wU, run_condT, run_condF, alt2_int, altB_bool, altI_int, altBB_bool, v_min, v_max, v_not, v_neg, optEv_none, optEv_some, isSome'_none, isSome'_some, pExt0, pExt1, pExt2, Bool.false_and, Bool.true_and, Bool.not_true, Bool.not_false, cond_true, cond_false, dops_nil, dops_none, xval_call, v_mov, v_bin, v_len, v_ext, v_idxA, v_ld, v_st, v_app, v_appN, v_cvs, v_bs1, pBs1, v_slc, v_conv, v_fld, v_fldA, v_new, v_box, v_mks, v_copy, v_isnil, v_nilck, v_pick, ev, evs_nil, evs_cons, fr_get_cons, fr_put_nil, fr_put_cons, fr_put_some, fr_put_none, fr_keep_nil, fr_keep_cons, fr_has_nil, fr_has_cons, Option.bind_some, Option.map_some, xbin, ibin, xresult_eq, xress_nil, xress_tmp, resV, ex_some, if_true, if_false, ite_true, ite_false, reduceIte, reduceCtorEq, Nat.reduceEqDiff, Nat.reduceLT, Nat.reduceLeDiff, Int.reduceLT, Int.reduceLE, Nat.zero_add, Nat.reduceAdd, Bool.false_eq_true, decide_eq_true_eq, decide_eq_false_iff_not, true_implies, false_implies, and_true, true_and]
  refine mcheck_ok a ls H _ ha hv hl hp h128 ?_
  intro H1 x1
  subst hT
  generalize hT : ((.seq (.ops [⟨some 16, .mov (.tmp 5), none⟩, ⟨some 17, .call 98 [.tmp 16, .func 99], none⟩] [5]) (.seq (.ops [⟨some 6, .mov (.const (.slice none 0 0)), none⟩] [5, 6]) (.seq (.seq (.ops [⟨some 7, .mov (.const (.int .i64 0)), none⟩] [5, 6, 7]) (.block 0 (.loop xmend_Join_l1))) (.seq (.ops [⟨some 64, .mov (.tmp 6), none⟩, ⟨some 2, .mov (.tmp 64), none⟩, ⟨some 3, .mov (.const (.int .i64 0)), none⟩] [2, 3]) .ret)))) : XCode) = T
  simp only [ofArgs, run_seq, run_block, run_ops, run_skip, run_exit, run_ret, thenQ_normal, thenQ_exit, thenQ_ret, blockQ_normal, blockQ_exit, blockQ_ret, retQ_ret, retQ_normal, ops_nil, ops_none, got_some, ops_wT, ops_wTn, ops_wF, ops_wFn, ops_wU, dops_wT, dops_wTn, dops_wF, dops_wFn, dops_wU, run_condT, run_condF, alt2_int, altB_bool, altI_int, altBB_bool, v_min, v_max, v_not, v_neg, optEv_none, optEv_some, isSome'_none, isSome'_some, pExt0, pExt1, pExt2, Bool.false_and, Bool.true_and, Bool.not_true, Bool.not_false, cond_true, cond_false, dops_nil, dops_none, xval_call, v_mov, v_bin, v_len, v_ext, v_idxA, v_ld, v_st, v_app, v_appN, v_cvs, v_bs1, pBs1, v_slc, v_conv, v_fld, v_fldA, v_new, v_box, v_mks, v_copy, v_isnil, v_nilck, v_pick, ev, evs_nil, evs_cons, fr_get_cons, fr_put_nil, fr_put_cons, fr_put_some, fr_put_none, fr_keep_nil, fr_keep_cons, fr_has_nil, fr_has_cons, Option.bind_some, Option.map_some, xbin, ibin, xresult_eq, xress_nil, xress_tmp, resV, ex_some, if_true, if_false, ite_true, ite_false, reduceIte, reduceCtorEq, Nat.reduceEqDiff, Nat.reduceLT, Nat.reduceLeDiff, Int.reduceLT, Int.reduceLE, Nat.zero_add, Nat.reduceAdd, Bool.false_eq_true, decide_eq_true_eq, decide_eq_false_iff_not, true_implies, false_implies, and_true, true_and, bne_self_eq_false]
  refine concatM_ok a ls H1 _ (ha.ext x1) (fun p hp => (hv p hp).ext x1) hl (by rw [hfl]; omega) ?_
  intro v H2 hv2 x2
  rw [hfl] at hv2
  subst hT
  generalize hT : ((.seq (.ops [⟨some 6, .mov (.const (.slice none 0 0)), none⟩] [5, 6]) (.seq (.seq (.ops [⟨some 7, .mov (.const (.int .i64 0)), none⟩] [5, 6, 7]) (.block 0 (.loop xmend_Join_l1))) (.seq (.ops [⟨some 64, .mov (.tmp 6), none⟩, ⟨some 2, .mov (.tmp 64), none⟩, ⟨some 3, .mov (.const (.int .i64 0)), none⟩] [2, 3]) .ret))) : XCode) = T
  simp only [ofArgs, run_seq, run_block, run_ops, run_skip, run_exit, run_ret, thenQ_normal, thenQ_exit, thenQ_ret, blockQ_normal, blockQ_exit, blockQ_ret, retQ_ret, retQ_normal, ops_nil, ops_none, got_some, ops_wT, ops_wTn, ops_wF, ops_wFn, ops_wU, dops_wT, dops_wTn, dops_wF, dops_wFn, dops_wU, run_condT, run_condF, alt2_int, altB_bool, altI_int, altBB_bool, v_min, v_max, v_not, v_neg, optEv_none, optEv_some, isSome'_none, isSome'_some, pExt0, pExt1, pExt2, Bool.false_and, Bool.true_and, Bool.not_true, Bool.not_false, cond_true, cond_false, dops_nil, dops_none, xval_call, v_mov, v_bin, v_len, v_ext, v_idxA, v_ld, v_st, v_app, v_appN, v_cvs, v_bs1, pBs1, v_slc, v_conv, v_fld, v_fldA, v_new, v_box, v_mks, v_copy, v_isnil, v_nilck, v_pick, ev, evs_nil, evs_cons, fr_get_cons, fr_put_nil, fr_put_cons, fr_put_some, fr_put_none, fr_keep_nil, fr_keep_cons, fr_has_nil, fr_has_cons, Option.bind_some, Option.map_some, xbin, ibin, xresult_eq, xress_nil, xress_tmp, resV, ex_some, if_true, if_false, ite_true, ite_false, reduceIte, reduceCtorEq, Nat.reduceEqDiff, Nat.reduceLT, Nat.reduceLeDiff, Int.reduceLT, Int.reduceLE, Nat.zero_add, Nat.reduceAdd, Bool.false_eq_true, decide_eq_true_eq, decide_eq_false_iff_not, true_implies, false_implies, and_true, true_and]
  refine stable_ok v (s0 :: l0) hsame hlen (by simp) H2 _ hv2 ?_
  intro H3 u x3
  have hv3 := hv2.ext x3
  subst hT
  simp only [ofArgs, run_seq, run_block, run_ops, run_skip, run_exit, run_ret, thenQ_normal, thenQ_exit, thenQ_ret, blockQ_normal, blockQ_exit, blockQ_ret, retQ_ret, retQ_normal, ops_nil, ops_none, got_some, ops_wT, ops_wTn, ops_wF, ops_wFn, ops_wU, dops_wT, dops_wTn, dops_wF, dops_wFn, dops_wU, run_condT, run_condF, alt2_int, altB_bool, altI_int, altBB_bool, v_min, v_max, v_not, v_neg, optEv_none, optEv_some, isSome'_none, isSome'_some, pExt0, pExt1, pExt2, Bool.false_and, Bool.true_and, Bool.not_true, Bool.not_false, cond_true, cond_false, dops_nil, dops_none, xval_call, v_mov, v_bin, v_len, v_ext, v_idxA, v_ld, v_st, v_app, v_appN, v_cvs, v_bs1, pBs1, v_slc, v_conv, v_fld, v_fldA, v_new, v_box, v_mks, v_copy, v_isnil, v_nilck, v_pick, ev, evs_nil, evs_cons, fr_get_cons, fr_put_nil, fr_put_cons, fr_put_some, fr_put_none, fr_keep_nil, fr_keep_cons, fr_has_nil, fr_has_cons, Option.bind_some, Option.map_some, xbin, ibin, xresult_eq, xress_nil, xress_tmp, resV, ex_some, if_true, if_false, ite_true, ite_false, reduceIte, reduceCtorEq, Nat.reduceEqDiff, Nat.reduceLT, Nat.reduceLeDiff, Int.reduceLT, Int.reduceLE, Nat.zero_add, Nat.reduceAdd, Bool.false_eq_true, decide_eq_true_eq, decide_eq_false_iff_not, true_implies, false_implies, and_true, true_and]
  have x123 := x1.trans (x2.trans x3)
  refine run_inv (fun k fr H' => (k = 0 ∧ H' = H3 ∧ fr = [(5, v), (6, .slice none 0 0), (7, .int .i64 0)]) ∨ (k = 1 ∧ HExt H H' ∧ SDs H' v (s0 :: l0) ∧ ∃ vo w f bs bad, Sl H' 7 vo 1 [.int .i64 s0.tr, .int .i64 s0.nu, w, .bool bad, .int .i64 ((s0 :: l0).length : Int), .int .i64 (((s0 :: l0).countP fun s => decide (s.bs = bs) : Nat) : Int), .int .i64 (nT f)] ∧ Byts H' w bs ∧ GoodF (s0 :: l0) f ∧ f.length = 128 ∧
      (((∀ s ∈ s0 :: l0, s.bad = true) ∧ bad = true ∧ bs = f.map Prod.fst) ∨ (∃ p1 s p2, s0 :: l0 = p1 ++ s :: p2 ∧ s.bad = false ∧ (∀ t ∈ p1, t.bad = true) ∧ bad = false ∧ bs = s.bs)) ∧ fr = [(5, v), (6, vo), (7, .int .i64 ((s0 :: l0).length : Int))])) 1 (.inl ⟨rfl, rfl, rfl⟩) ?_ ?_
  · rintro k hk fr H4 h J hJ
    rcases h with ⟨rfl, rfl, rfl⟩ | ⟨h, _⟩
    case inr => omega
    have e5 := hv3.1.len_ok
    have hlt : (0 : Int) < ((s0 :: l0).length : Int) := by simp only [List.length_cons]; omega
    simp only [xmend_Join_l1, ofArgs, run_seq, run_block, run_ops, run_skip, run_exit, run_ret, thenQ_normal, thenQ_exit, thenQ_ret, blockQ_normal, blockQ_exit, blockQ_ret, retQ_ret, retQ_normal, ops_nil, ops_none, got_some, ops_wT, ops_wTn, ops_wF, ops_wFn, ops_wU, dops_wT, dops_wTn, dops_wF, dops_wFn, dops_wU, run_condT, run_condF, alt2_int, altB_bool, altI_int, altBB_bool, v_min, v_max, v_not, v_neg, optEv_none, optEv_some, isSome'_none, isSome'_some, pExt0, pExt1, pExt2, Bool.false_and, Bool.true_and, Bool.not_true, Bool.not_false, cond_true, cond_false, dops_nil, dops_none, xval_call, v_mov, v_bin, v_len, v_ext, v_idxA, v_ld, v_st, v_app, v_appN, v_cvs, v_bs1, pBs1, v_slc, v_conv, v_fld, v_fldA, v_new, v_box, v_mks, v_copy, v_isnil, v_nilck, v_pick, ev, evs_nil, evs_cons, fr_get_cons, fr_put_nil, fr_put_cons, fr_put_some, fr_put_none, fr_keep_nil, fr_keep_cons, fr_has_nil, fr_has_cons, Option.bind_some, Option.map_some, xbin, ibin, xresult_eq, xress_nil, xress_tmp, resV, ex_some, if_true, if_false, ite_true, ite_false, reduceIte, reduceCtorEq, Nat.reduceEqDiff, Nat.reduceLT, Nat.reduceLeDiff, Int.reduceLT, Int.reduceLE, Nat.zero_add, Nat.reduceAdd, Bool.false_eq_true, decide_eq_true_eq, decide_eq_false_iff_not, true_implies, false_implies, and_true, true_and, e5, hlt, decide_true]
    refine run_inv (fun j fr H' => H' = H4 ∧ fr = [(5, v), (6, .slice none 0 0), (7, .int .i64 0), (8, .int .i64 (j : Int))]) (s0 :: l0).length ⟨rfl, rfl⟩ ?_ ?_
    · rintro j hj fr H5 ⟨rfl, rfl⟩ J2 hJ2
      obtain ⟨s, hsj⟩ : ∃ s, (s0 :: l0)[j]? = some s := ⟨_, List.getElem?_eq_getElem hj⟩
      have hlt : (j : Int) < ((s0 :: l0).length : Int) := by omega
      have g1 : pIdx 4 v (.int .i64 (j : Int)) H5 = some (ptrAt v (j * 4), H5) := hv3.1.at .i64 (j : Int) j rfl hj
      have g0 : pIdx 4 v (.int .i64 0) H5 = some (ptrAt v (0 * 4), H5) := hv3.1.at .i64 0 0 rfl (by simp)
      have a0 := hv3.1.fld 0 (j * 4) (by simp)
      have a1 := hv3.1.fld 1 (j * 4) (by simp)
      have b0 := hv3.1.fld 0 (0 * 4) (by simp)
      have b1 := hv3.1.fld 1 (0 * 4) (by simp)
      have c0 : pLd none (ptrAt v (j * 4 + 0)) H5 = some (.int .i64 s.tr, H5) := hv3.1.cell j s hsj 0 _ rfl
      have c1 : pLd none (ptrAt v (j * 4 + 1)) H5 = some (.int .i64 s.nu, H5) := hv3.1.cell j s hsj 1 _ rfl
      have d0 : pLd none (ptrAt v (0 * 4 + 0)) H5 = some (.int .i64 s0.tr, H5) := hv3.1.cell 0 s0 rfl 0 _ rfl
      have d1 : pLd none (ptrAt v (0 * 4 + 1)) H5 = some (.int .i64 s0.nu, H5) := hv3.1.cell 0 s0 rfl 1 _ rfl
      obtain ⟨t1, t2⟩ := hsame s (List.mem_of_getElem? hsj) s0 (by simp)
      rw [t1] at c0
      rw [t2] at c1
      have w3 := wrS j (by omega)
      simp only [xmend_Join_l0, ofArgs, run_seq, run_block, run_ops, run_skip, run_exit, run_ret, thenQ_normal, thenQ_exit, thenQ_ret, blockQ_normal, blockQ_exit, blockQ_ret, retQ_ret, retQ_normal, ops_nil, ops_none, got_some, ops_wT, ops_wTn, ops_wF, ops_wFn, ops_wU, dops_wT, dops_wTn, dops_wF, dops_wFn, dops_wU, run_condT, run_condF, alt2_int, altB_bool, altI_int, altBB_bool, v_min, v_max, v_not, v_neg, optEv_none, optEv_some, isSome'_none, isSome'_some, pExt0, pExt1, pExt2, Bool.false_and, Bool.true_and, Bool.not_true, Bool.not_false, cond_true, cond_false, dops_nil, dops_none, xval_call, v_mov, v_bin, v_len, v_ext, v_idxA, v_ld, v_st, v_app, v_appN, v_cvs, v_bs1, pBs1, v_slc, v_conv, v_fld, v_fldA, v_new, v_box, v_mks, v_copy, v_isnil, v_nilck, v_pick, ev, evs_nil, evs_cons, fr_get_cons, fr_put_nil, fr_put_cons, fr_put_some, fr_put_none, fr_keep_nil, fr_keep_cons, fr_has_nil, fr_has_cons, Option.bind_some, Option.map_some, xbin, ibin, xresult_eq, xress_nil, xress_tmp, resV, ex_some, if_true, if_false, ite_true, ite_false, reduceIte, reduceCtorEq, Nat.reduceEqDiff, Nat.reduceLT, Nat.reduceLeDiff, Int.reduceLT, Int.reduceLE, Nat.zero_add, Nat.reduceAdd, Bool.false_eq_true, decide_eq_true_eq, decide_eq_false_iff_not, true_implies, false_implies, and_true, true_and]
      refine run_dops _ _ _ _ _ rfl ?_
      simp only [ofArgs, run_seq, run_block, run_ops, run_skip, run_exit, run_ret, thenQ_normal, thenQ_exit, thenQ_ret, blockQ_normal, blockQ_exit, blockQ_ret, retQ_ret, retQ_normal, ops_nil, ops_none, got_some, ops_wT, ops_wTn, ops_wF, ops_wFn, ops_wU, dops_wT, dops_wTn, dops_wF, dops_wFn, dops_wU, run_condT, run_condF, alt2_int, altB_bool, altI_int, altBB_bool, v_min, v_max, v_not, v_neg, optEv_none, optEv_some, isSome'_none, isSome'_some, pExt0, pExt1, pExt2, Bool.false_and, Bool.true_and, Bool.not_true, Bool.not_false, cond_true, cond_false, dops_nil, dops_none, xval_call, v_mov, v_bin, v_len, v_ext, v_idxA, v_ld, v_st, v_app, v_appN, v_cvs, v_bs1, pBs1, v_slc, v_conv, v_fld, v_fldA, v_new, v_box, v_mks, v_copy, v_isnil, v_nilck, v_pick, ev, evs_nil, evs_cons, fr_get_cons, fr_put_nil, fr_put_cons, fr_put_some, fr_put_none, fr_keep_nil, fr_keep_cons, fr_has_nil, fr_has_cons, Option.bind_some, Option.map_some, xbin, ibin, xresult_eq, xress_nil, xress_tmp, resV, ex_some, if_true, if_false, ite_true, ite_false, reduceIte, reduceCtorEq, Nat.reduceEqDiff, Nat.reduceLT, Nat.reduceLeDiff, Int.reduceLT, Int.reduceLE, Nat.zero_add, Nat.reduceAdd, Bool.false_eq_true, decide_eq_true_eq, decide_eq_false_iff_not, true_implies, false_implies, and_true, true_and, e5, hlt, decide_true, g1, g0, a0, a1, b0, b1, c0, c1, d0, d1, beq_self_eq_true, w3]
      exact hJ2 _ _ ⟨rfl, rfl⟩
    · rintro fr H5 ⟨rfl, rfl⟩
      obtain ⟨s', k1, k2, k3, k4⟩ := xslc_ok (lo := some (.int .i64 0)) (hi := some (.int .i64 ((s0 :: l0).length : Int))) (i := 0) (h := (s0 :: l0).length) hv3.1 rfl rfl (by omega) (Nat.le_refl _)
      have k1' : xslc H5 4 v (some (.int .i64 0)) (some (.int .i64 ((s0 :: l0).length : Int))) none = some s' := k1
      simp only [xmend_Join_l0, ofArgs, run_seq, run_block, run_ops, run_skip, run_exit, run_ret, thenQ_normal, thenQ_exit, thenQ_ret, blockQ_normal, blockQ_exit, blockQ_ret, retQ_ret, retQ_normal, ops_nil, ops_none, got_some, ops_wT, ops_wTn, ops_wF, ops_wFn, ops_wU, dops_wT, dops_wTn, dops_wF, dops_wFn, dops_wU, run_condT, run_condF, alt2_int, altB_bool, altI_int, altBB_bool, v_min, v_max, v_not, v_neg, optEv_none, optEv_some, isSome'_none, isSome'_some, pExt0, pExt1, pExt2, Bool.false_and, Bool.true_and, Bool.not_true, Bool.not_false, cond_true, cond_false, dops_nil, dops_none, xval_call, v_mov, v_bin, v_len, v_ext, v_idxA, v_ld, v_st, v_app, v_appN, v_cvs, v_bs1, pBs1, v_slc, v_conv, v_fld, v_fldA, v_new, v_box, v_mks, v_copy, v_isnil, v_nilck, v_pick, ev, evs_nil, evs_cons, fr_get_cons, fr_put_nil, fr_put_cons, fr_put_some, fr_put_none, fr_keep_nil, fr_keep_cons, fr_has_nil, fr_has_cons, Option.bind_some, Option.map_some, xbin, ibin, xresult_eq, xress_nil, xress_tmp, resV, ex_some, if_true, if_false, ite_true, ite_false, reduceIte, reduceCtorEq, Nat.reduceEqDiff, Nat.reduceLT, Nat.reduceLeDiff, Int.reduceLT, Int.reduceLE, Nat.zero_add, Nat.reduceAdd, Bool.false_eq_true, decide_eq_true_eq, decide_eq_false_iff_not, true_implies, false_implies, and_true, true_and]
      refine run_dops _ _ _ _ _ rfl ?_
      simp only [ofArgs, run_seq, run_block, run_ops, run_skip, run_exit, run_ret, thenQ_normal, thenQ_exit, thenQ_ret, blockQ_normal, blockQ_exit, blockQ_ret, retQ_ret, retQ_normal, ops_nil, ops_none, got_some, ops_wT, ops_wTn, ops_wF, ops_wFn, ops_wU, dops_wT, dops_wTn, dops_wF, dops_wFn, dops_wU, run_condT, run_condF, alt2_int, altB_bool, altI_int, altBB_bool, v_min, v_max, v_not, v_neg, optEv_none, optEv_some, isSome'_none, isSome'_some, pExt0, pExt1, pExt2, Bool.false_and, Bool.true_and, Bool.not_true, Bool.not_false, cond_true, cond_false, dops_nil, dops_none, xval_call, v_mov, v_bin, v_len, v_ext, v_idxA, v_ld, v_st, v_app, v_appN, v_cvs, v_bs1, pBs1, v_slc, v_conv, v_fld, v_fldA, v_new, v_box, v_mks, v_copy, v_isnil, v_nilck, v_pick, ev, evs_nil, evs_cons, fr_get_cons, fr_put_nil, fr_put_cons, fr_put_some, fr_put_none, fr_keep_nil, fr_keep_cons, fr_has_nil, fr_has_cons, Option.bind_some, Option.map_some, xbin, ibin, xresult_eq, xress_nil, xress_tmp, resV, ex_some, if_true, if_false, ite_true, ite_false, reduceIte, reduceCtorEq, Nat.reduceEqDiff, Nat.reduceLT, Nat.reduceLeDiff, Int.reduceLT, Int.reduceLE, Nat.zero_add, Nat.reduceAdd, Bool.false_eq_true, decide_eq_true_eq, decide_eq_false_iff_not, true_implies, false_implies, and_true, true_and, e5, Int.lt_irrefl, decide_false, k1']
      have hvs : SDs H5 s' (s0 :: l0) := by
        refine ⟨?_, hv3.2⟩
        have h4 : ((s0 :: l0).length - 0) = (s0 :: l0).length := by omega
        have := LS.cells_len (S := SDL) (s0 :: l0)
        unfold SL
        rw [h4, Nat.zero_mul, List.drop_zero, List.take_of_length_le (by rw [this]; exact Nat.le_refl _)] at k2
        exact k2
      refine joined_ok s' s0 l0 H5 _ hvs hok (by omega) ?_
      intro H6 w f bs bad x6 ow hg hf hdis
      obtain ⟨y1, y2⟩ := slice_one ow.1
      have hall : ([.int .i64 s0.tr, .int .i64 s0.nu, w, .bool bad, .int .i64 ((s0 :: l0).length : Int), .int .i64 (((s0 :: l0).countP fun s => decide (s.bs = bs) : Nat) : Int), .int .i64 (nT f)] : List Value).all one = true := by
        simp only [List.all_cons, List.all_nil, y1, one_int, one_bool]; rfl
      simp only [ofArgs, run_seq, run_block, run_ops, run_skip, run_exit, run_ret, thenQ_normal, thenQ_exit, thenQ_ret, blockQ_normal, blockQ_exit, blockQ_ret, retQ_ret, retQ_normal, ops_nil, ops_none, got_some, ops_wT, ops_wTn, ops_wF, ops_wFn, ops_wU, dops_wT, dops_wTn, dops_wF, dops_wFn, dops_wU, run_condT, run_condF, alt2_int, altB_bool, altI_int, altBB_bool, v_min, v_max, v_not, v_neg, optEv_none, optEv_some, isSome'_none, isSome'_some, pExt0, pExt1, pExt2, Bool.false_and, Bool.true_and, Bool.not_true, Bool.not_false, cond_true, cond_false, dops_nil, dops_none, xval_call, v_mov, v_bin, v_len, v_ext, v_idxA, v_ld, v_st, v_app, v_appN, v_cvs, v_bs1, pBs1, v_slc, v_conv, v_fld, v_fldA, v_new, v_box, v_mks, v_copy, v_isnil, v_nilck, v_pick, ev, evs_nil, evs_cons, fr_get_cons, fr_put_nil, fr_put_cons, fr_put_some, fr_put_none, fr_keep_nil, fr_keep_cons, fr_has_nil, fr_has_cons, Option.bind_some, Option.map_some, xbin, ibin, xresult_eq, xress_nil, xress_tmp, resV, ex_some, if_true, if_false, ite_true, ite_false, reduceIte, reduceCtorEq, Nat.reduceEqDiff, Nat.reduceLT, Nat.reduceLeDiff, Int.reduceLT, Int.reduceLE, Nat.zero_add, Nat.reduceAdd, Bool.false_eq_true, decide_eq_true_eq, decide_eq_false_iff_not, true_implies, false_implies, and_true, true_and, vbs, List.map_cons, List.map_nil, Nat.zero_mul, xfill_cons, xfill_nil, rep1]
      rw [fillN_all (n := 7) hall rfl rfl]
      simp only [Option.map_some, got_some]
      have x7 := hext_push H6 ⟨[.int .i64 s0.tr, .int .i64 s0.nu, w, .bool bad, .int .i64 ((s0 :: l0).length : Int), .int .i64 (((s0 :: l0).countP fun s => decide (s.bs = bs) : Nat) : Int), .int .i64 (nT f)], 7, false, false⟩
      refine xapp_own (Own.nil _ 7 _) (Nat.le_refl _) (Sl.pushed H6 _ 7 1 false false rfl) hall (by decide) (by decide) (by decide) ?_
      intro vo H8 o8 s8
      have x8 := s8.keep (Own.nil _ 7 _) (Nat.le_refl _)
      have xx := x6.trans (x7.trans x8)
      try simp only [ofArgs, run_seq, run_block, run_ops, run_skip, run_exit, run_ret, thenQ_normal, thenQ_exit, thenQ_ret, blockQ_normal, blockQ_exit, blockQ_ret, retQ_ret, retQ_normal, ops_nil, ops_none, got_some, ops_wT, ops_wTn, ops_wF, ops_wFn, ops_wU, dops_wT, dops_wTn, dops_wF, dops_wFn, dops_wU, run_condT, run_condF, alt2_int, altB_bool, altI_int, altBB_bool, v_min, v_max, v_not, v_neg, optEv_none, optEv_some, isSome'_none, isSome'_some, pExt0, pExt1, pExt2, Bool.false_and, Bool.true_and, Bool.not_true, Bool.not_false, cond_true, cond_false, dops_nil, dops_none, xval_call, v_mov, v_bin, v_len, v_ext, v_idxA, v_ld, v_st, v_app, v_appN, v_cvs, v_bs1, pBs1, v_slc, v_conv, v_fld, v_fldA, v_new, v_box, v_mks, v_copy, v_isnil, v_nilck, v_pick, ev, evs_nil, evs_cons, fr_get_cons, fr_put_nil, fr_put_cons, fr_put_some, fr_put_none, fr_keep_nil, fr_keep_cons, fr_has_nil, fr_has_cons, Option.bind_some, Option.map_some, xbin, ibin, xresult_eq, xress_nil, xress_tmp, resV, ex_some, if_true, if_false, ite_true, ite_false, reduceIte, reduceCtorEq, Nat.reduceEqDiff, Nat.reduceLT, Nat.reduceLeDiff, Int.reduceLT, Int.reduceLE, Nat.zero_add, Nat.reduceAdd, Bool.false_eq_true, decide_eq_true_eq, decide_eq_false_iff_not, true_implies, false_implies, and_true, true_and]
      exact hJ _ _ (.inr ⟨rfl, x123.trans xx, hv3.ext xx, vo, w, f, bs, bad, o8.1, Sl.ext (x7.trans x8) ow.1, hg, hf, hdis, rfl⟩)
  · rintro fr H4 h
    rcases h with ⟨h, _⟩ | ⟨_, x4, hv4, vo, w, f, bs, bad, h1, h2, h3, h4, h5, rfl⟩
    · omega
    have e5 := hv4.1.len_ok
    simp only [xmend_Join_l1, ofArgs, run_seq, run_block, run_ops, run_skip, run_exit, run_ret, thenQ_normal, thenQ_exit, thenQ_ret, blockQ_normal, blockQ_exit, blockQ_ret, retQ_ret, retQ_normal, ops_nil, ops_none, got_some, ops_wT, ops_wTn, ops_wF, ops_wFn, ops_wU, dops_wT, dops_wTn, dops_wF, dops_wFn, dops_wU, run_condT, run_condF, alt2_int, altB_bool, altI_int, altBB_bool, v_min, v_max, v_not, v_neg, optEv_none, optEv_some, isSome'_none, isSome'_some, pExt0, pExt1, pExt2, Bool.false_and, Bool.true_and, Bool.not_true, Bool.not_false, cond_true, cond_false, dops_nil, dops_none, xval_call, v_mov, v_bin, v_len, v_ext, v_idxA, v_ld, v_st, v_app, v_appN, v_cvs, v_bs1, pBs1, v_slc, v_conv, v_fld, v_fldA, v_new, v_box, v_mks, v_copy, v_isnil, v_nilck, v_pick, ev, evs_nil, evs_cons, fr_get_cons, fr_put_nil, fr_put_cons, fr_put_some, fr_put_none, fr_keep_nil, fr_keep_cons, fr_has_nil, fr_has_cons, Option.bind_some, Option.map_some, xbin, ibin, xresult_eq, xress_nil, xress_tmp, resV, ex_some, if_true, if_false, ite_true, ite_false, reduceIte, reduceCtorEq, Nat.reduceEqDiff, Nat.reduceLT, Nat.reduceLeDiff, Int.reduceLT, Int.reduceLE, Nat.zero_add, Nat.reduceAdd, Bool.false_eq_true, decide_eq_true_eq, decide_eq_false_iff_not, true_implies, false_implies, and_true, true_and, e5, Int.lt_irrefl, decide_false]
    exact hq H4 vo w f bs bad x4 h1 h2 h3 h4 h5
end Go.Proofs.Ytejedmocjdcdgaa.D

set_option linter.unusedSimpArgs false
set_option linter.unusedVariables false
namespace Go.Proofs.Ytejedmocjdcdgaa.D
open Go Go.Det

def flp (l : List Int) (k : Nat) : List Int := l.set k (((l.getD k 0).toNat ^^^ 255 : Nat) : Int)
theorem flp_b8 (l : List Int) (h : B8 l) (k : Nat) : B8 (flp l k) := by
  have h1 := b8_get l h k
  have := x8 (a := (l.getD k 0).toNat) (b := 255) (by omega) (by omega)
  exact b8_set l h _ _ (by omega) (by omega)
theorem flp_len (l : List Int) (k : Nat) : (flp l k).length = l.length := by simp [flp]
theorem spoilt_ok (B : Nat) (vd : Value) (data : List Int) (hb8 : B8 data) (hlen : data.length = 128) (k : Nat) (hk : k < 128) (bad : Bool) (H : AH) (hB : Bx H B [vd]) (hd : Byts H vd data) (Q : Value → AH → Prop)
    (hq : ∀ H' w, HExt H H' → Byts H' w (if bad then flp data k else data) → Q (.agg #[.int .i64 1, .int .i64 2, w, .bool bad]) H') :
    Got (xc Try.prog tab 47 [.int .i64 (k : Int), .bool bad, .pointer (some ⟨B, 0, none⟩)] H) Q := by
  refine got_call (res := [.cell 5 (some 4)]) rfl ?_
  have x1 := hext_push H ⟨[.int .i64 0, .int .i64 0, .slice none 0 0, .bool false], 1, false, false⟩
  have b5 := Bx.new H [.int .i64 0, .int .i64 0, .slice none 0 0, .bool false]
  have n1 : (H.push ⟨[.int .i64 0, .int .i64 0, .slice none 0 0, .bool false], 1, false, false⟩).n = H.n + 1 := rfl
  generalize hT : ((.seq (.ops [⟨some 7, .mov (.tmp 1), none⟩, ⟨some 8, .ld none (.tmp 2), none⟩, ⟨some 9, .call 36 [.tmp 8], none⟩, ⟨some 10, .build [.int .i64 0, .int .i64 0, .slice none 0 0, .bool false] [(0, 1, .const (.int .i64 1)), (1, 1, .const (.int .i64 2)), (3, 1, .tmp 7), (2, 1, .tmp 9)], none⟩, ⟨some 6, .new 87 1 [.int .i64 0, .int .i64 0, .slice none 0 0, .bool false], none⟩, ⟨none, .st 4 (.tmp 6) (.tmp 10), none⟩] [0, 1, 5, 6]) (.seq (.seq (.ops [⟨some 11, .mov (.tmp 1), none⟩] [0, 5, 6, 11]) (.cond (.tmp 11) (.ops [⟨some 12, .fldA 2 (.tmp 6), none⟩, ⟨some 13, .ld none (.tmp 12), none⟩, ⟨some 14, .mov (.tmp 0), none⟩, ⟨some 15, .idxA 1 (.tmp 13) (.tmp 14), none⟩, ⟨some 16, .ld none (.tmp 15), none⟩, ⟨some 17, .bin .xor (.tmp 16) (.const (.int .u8 255)), none⟩, ⟨some 18, .idxA 1 (.tmp 13) (.tmp 14), none⟩, ⟨none, .st 1 (.tmp 18) (.tmp 17), none⟩] [5, 6]) .skip)) (.seq (.ops [⟨some 19, .ld (some 4) (.tmp 6), none⟩, ⟨none, .st 4 (.tmp 5) (.tmp 19), none⟩] [5]) .ret))) : XCode) = T
  simp only [ofArgs, run_seq, run_block, run_ops, run_skip, run_exit, run_ret, thenQ_normal, thenQ_exit, thenQ_ret, blockQ_normal, blockQ_exit, blockQ_ret, retQ_ret, retQ_normal, ops_nil, ops_none, got_some, ops_wT, ops_wTn, ops_wF, ops_wFn, ops_wU, dops_wT, dops_wTn, dops_wF, dops_wFn, dops_wU, run_condT, run_condF, alt2_int, altB_bool, altI_int, altBB_bool, v_min, v_max, v_not, v_neg, optEv_none, optEv_some, isSome'_none, isSome'_some, pExt0, pExt1, pExt2, Bool.false_and, Bool.true_and, Bool.not_true, Bool.not_false, cond_true, cond_false, dops_nil, dops_none, xval_call, v_mov, v_bin, v_len, v_ext, v_idxA, v_ld, v_st, v_app, v_appN, v_cvs, v_bs1, pBs1, v_slc, v_conv, v_fld, v_fldA, v_new, v_box, v_mks, v_copy, v_isnil, v_nilck, v_pick, ev, evs_nil, evs_cons, fr_get_cons, fr_put_nil, fr_put_cons, fr_put_some, fr_put_none, fr_keep_nil, fr_keep_cons, fr_has_nil, fr_has_cons, Option.bind_some, Option.map_some, xbin, ibin, xresult_eq, xress_nil, xress_tmp, resV, ex_some, if_true, if_false, ite_true, ite_false, reduceIte, reduceCtorEq, Nat.reduceEqDiff, Nat.reduceLT, Nat.reduceLeDiff, Int.reduceLT, Int.reduceLE, Nat.zero_add, Nat.reduceAdd, Bool.false_eq_true, decide_eq_true_eq, decide_eq_false_iff_not, true_implies, false_implies, and_true, true_and]
  generalize H.push ⟨[.int .i64 0, .int .i64 0, .slice none 0 0, .bool false], 1, false, false⟩ = H1 at *
  have l1 := (hB.ext x1).ld 0 vd rfl
  have hd1 : Byts H1 vd data := Sl.ext x1 hd
  have hnn : ∃ B o l c, vd = .slice (some ⟨B, o, none⟩) l c := by
    obtain ⟨B, o, c, blk, h, _⟩ := Sl.live hd (by omega)
    exact ⟨B, o, _, c, h⟩
  subst hT
  generalize hT : ((.seq (.seq (.ops [⟨some 11, .mov (.tmp 1), none⟩] [0, 5, 6, 11]) (.cond (.tmp 11) (.ops [⟨some 12, .fldA 2 (.tmp 6), none⟩, ⟨some 13, .ld none (.tmp 12), none⟩, ⟨some 14, .mov (.tmp 0), none⟩, ⟨some 15, .idxA 1 (.tmp 13) (.tmp 14), none⟩, ⟨some 16, .ld none (.tmp 15), none⟩, ⟨some 17, .bin .xor (.tmp 16) (.const (.int .u8 255)), none⟩, ⟨some 18, .idxA 1 (.tmp 13) (.tmp 14), none⟩, ⟨none, .st 1 (.tmp 18) (.tmp 17), none⟩] [5, 6]) .skip)) (.seq (.ops [⟨some 19, .ld (some 4) (.tmp 6), none⟩, ⟨none, .st 4 (.tmp 5) (.tmp 19), none⟩] [5]) .ret)) : XCode) = T
  simp only [ofArgs, run_seq, run_block, run_ops, run_skip, run_exit, run_ret, thenQ_normal, thenQ_exit, thenQ_ret, blockQ_normal, blockQ_exit, blockQ_ret, retQ_ret, retQ_normal, ops_nil, ops_none, got_some, ops_wT, ops_wTn, ops_wF, ops_wFn, ops_wU, dops_wT, dops_wTn, dops_wF, dops_wFn, dops_wU, run_condT, run_condF, alt2_int, altB_bool, altI_int, altBB_bool, v_min, v_max, v_not, v_neg, optEv_none, optEv_some, isSome'_none, isSome'_some, pExt0, pExt1, pExt2, Bool.false_and, Bool.true_and, Bool.not_true, Bool.not_false, cond_true, cond_false, dops_nil, dops_none, xval_call, v_mov, v_bin, v_len, v_ext, v_idxA, v_ld, v_st, v_app, v_appN, v_cvs, v_bs1, pBs1, v_slc, v_conv, v_fld, v_fldA, v_new, v_box, v_mks, v_copy, v_isnil, v_nilck, v_pick, ev, evs_nil, evs_cons, fr_get_cons, fr_put_nil, fr_put_cons, fr_put_some, fr_put_none, fr_keep_nil, fr_keep_cons, fr_has_nil, fr_has_cons, Option.bind_some, Option.map_some, xbin, ibin, xresult_eq, xress_nil, xress_tmp, resV, ex_some, if_true, if_false, ite_true, ite_false, reduceIte, reduceCtorEq, Nat.reduceEqDiff, Nat.reduceLT, Nat.reduceLeDiff, Int.reduceLT, Int.reduceLE, Nat.zero_add, Nat.reduceAdd, Bool.false_eq_true, decide_eq_true_eq, decide_eq_false_iff_not, true_implies, false_implies, and_true, true_and, l1]
  refine clone_ok data (by omega) vd H1 _ hd1 hnn ?_
  intro w H2 o2 x2
  obtain ⟨w1, w2⟩ := slice_one o2.1
  have b6n := Bx.new H2 [.int .i64 0, .int .i64 0, .slice none 0 0, .bool false]
  have st6 := b6n.stn 4 [.int .i64 1, .int .i64 2, w, .bool bad] rfl rfl (by simp only [List.all_cons, List.all_nil, w1, one_int, one_bool]; rfl)
  have b6 := Bx.mk H2 [.int .i64 0, .int .i64 0, .slice none 0 0, .bool false] [.int .i64 1, .int .i64 2, w, .bool bad]
  have x3 : HExt H2 ((H2.push ⟨[.int .i64 0, .int .i64 0, .slice none 0 0, .bool false], 1, false, false⟩).set H2.n ⟨[.int .i64 1, .int .i64 2, w, .bool bad], 1, false, false⟩) := box_ext _ _ _
  have n3 : ((H2.push ⟨[.int .i64 0, .int .i64 0, .slice none 0 0, .bool false], 1, false, false⟩).set H2.n ⟨[.int .i64 1, .int .i64 2, w, .bool bad], 1, false, false⟩).n = H2.n + 1 := rfl
  subst hT
  generalize hT : ((.seq (.ops [⟨some 19, .ld (some 4) (.tmp 6), none⟩, ⟨none, .st 4 (.tmp 5) (.tmp 19), none⟩] [5]) .ret) : XCode) = T
  simp only [ofArgs, run_seq, run_block, run_ops, run_skip, run_exit, run_ret, thenQ_normal, thenQ_exit, thenQ_ret, blockQ_normal, blockQ_exit, blockQ_ret, retQ_ret, retQ_normal, ops_nil, ops_none, got_some, ops_wT, ops_wTn, ops_wF, ops_wFn, ops_wU, dops_wT, dops_wTn, dops_wF, dops_wFn, dops_wU, run_condT, run_condF, alt2_int, altB_bool, altI_int, altBB_bool, v_min, v_max, v_not, v_neg, optEv_none, optEv_some, isSome'_none, isSome'_some, pExt0, pExt1, pExt2, Bool.false_and, Bool.true_and, Bool.not_true, Bool.not_false, cond_true, cond_false, dops_nil, dops_none, xval_call, v_mov, v_bin, v_len, v_ext, v_idxA, v_ld, v_st, v_app, v_appN, v_cvs, v_bs1, pBs1, v_slc, v_conv, v_fld, v_fldA, v_new, v_box, v_mks, v_copy, v_isnil, v_nilck, v_pick, ev, evs_nil, evs_cons, fr_get_cons, fr_put_nil, fr_put_cons, fr_put_some, fr_put_none, fr_keep_nil, fr_keep_cons, fr_has_nil, fr_has_cons, Option.bind_some, Option.map_some, xbin, ibin, xresult_eq, xress_nil, xress_tmp, resV, ex_some, if_true, if_false, ite_true, ite_false, reduceIte, reduceCtorEq, Nat.reduceEqDiff, Nat.reduceLT, Nat.reduceLeDiff, Int.reduceLT, Int.reduceLE, Nat.zero_add, Nat.reduceAdd, Bool.false_eq_true, decide_eq_true_eq, decide_eq_false_iff_not, true_implies, false_implies, and_true, true_and, vb, xfill_cons, xfill_nil, fillN_one, one_int, one_bool, vc_int, vc_bool, w1, w2, eq_self, List.length_cons, List.length_nil, List.length_set, List.set_cons_zero, List.set_cons_succ, st6]
  generalize (H2.push ⟨[.int .i64 0, .int .i64 0, .slice none 0 0, .bool false], 1, false, false⟩).set H2.n ⟨[.int .i64 1, .int .i64 2, w, .bool bad], 1, false, false⟩ = H3 at *
  have o3 := Own.ext x3 o2
  have hwE : ∀ b, inB w b → H1.n ≤ b ∧ b < H2.n := fun b hb => ⟨by obtain ⟨o, a, c, e⟩ := hb; exact (o2.2 b o a c e).1, Sl.lt o2.1 hb⟩
  have b53 := (b5.ext x2).ext x3
  have fin : ∀ fr H4 bs', (fr = [(5, .pointer (some ⟨H.n, 0, none⟩)), (6, .pointer (some ⟨H2.n, 0, none⟩))] ∨ fr = [(0, Value.int IntKind.i64 (k : Int)), (5, .pointer (some ⟨H.n, 0, none⟩)), (6, .pointer (some ⟨H2.n, 0, none⟩)), (11, Value.bool false)]) → Byts H4 w bs' → Bx H4 H.n [.int .i64 0, .int .i64 0, .slice none 0 0, .bool false] → Bx H4 H2.n [.int .i64 1, .int .i64 2, w, .bool bad] → (∀ b, b < H.n → H4.get b = H.get b) → bs' = (if bad then flp data k else data) → Run Try.prog tab (.seq (.ops [⟨some 19, .ld (some 4) (.tmp 6), none⟩, ⟨none, .st 4 (.tmp 5) (.tmp 19), none⟩] [5]) .ret) fr H4 (retQ [XRes.cell 5 (some 4)] Q) := by
    intro fr H4 bs' hfr hb4 c5 c6 g4 hbs
    have l6 := c6.ldn 4 rfl
    have st5 := c5.stn 4 [.int .i64 1, .int .i64 2, w, .bool bad] rfl rfl (by simp only [List.all_cons, List.all_nil, w1, one_int, one_bool]; rfl)
    have g5 := c5.set [.int .i64 1, .int .i64 2, w, .bool bad]
    have hcell : ∀ (fr : Fr) (xs : List XRes), fr.get 5 = some (.pointer (some ⟨H.n, 0, none⟩)) → xress fr (H4.set H.n ⟨[.int .i64 1, .int .i64 2, w, .bool bad], 1, false, false⟩) (.cell 5 (some 4) :: xs) = (xress fr (H4.set H.n ⟨[.int .i64 1, .int .i64 2, w, .bool bad], 1, false, false⟩) xs).map fun vs => .agg #[.int .i64 1, .int .i64 2, w, .bool bad] :: vs := by
      intro fr xs hfr
      rw [xress_cell fr _ 5 _ 0 (some 4) _ (.agg #[.int .i64 1, .int .i64 2, w, .bool bad]) xs hfr g5.1 rfl]
    have hg : ∀ fr, (fr = [(5, .pointer (some ⟨H.n, 0, none⟩)), (6, .pointer (some ⟨H2.n, 0, none⟩))] ∨ fr = [(0, Value.int IntKind.i64 (k : Int)), (5, .pointer (some ⟨H.n, 0, none⟩)), (6, .pointer (some ⟨H2.n, 0, none⟩)), (11, Value.bool false)]) → Q (.agg #[.int .i64 1, .int .i64 2, w, .bool bad]) (H4.set H.n ⟨[.int .i64 1, .int .i64 2, w, .bool bad], 1, false, false⟩) → Run Try.prog tab (.seq (.ops [⟨some 19, .ld (some 4) (.tmp 6), none⟩, ⟨none, .st 4 (.tmp 5) (.tmp 19), none⟩] [5]) .ret) fr H4 (retQ [XRes.cell 5 (some 4)] Q) := by
      intro fr hfr hqq
      rcases hfr with rfl | rfl
      · simp only [ofArgs, run_seq, run_block, run_ops, run_skip, run_exit, run_ret, thenQ_normal, thenQ_exit, thenQ_ret, blockQ_normal, blockQ_exit, blockQ_ret, retQ_ret, retQ_normal, ops_nil, ops_none, got_some, ops_wT, ops_wTn, ops_wF, ops_wFn, ops_wU, dops_wT, dops_wTn, dops_wF, dops_wFn, dops_wU, run_condT, run_condF, alt2_int, altB_bool, altI_int, altBB_bool, v_min, v_max, v_not, v_neg, optEv_none, optEv_some, isSome'_none, isSome'_some, pExt0, pExt1, pExt2, Bool.false_and, Bool.true_and, Bool.not_true, Bool.not_false, cond_true, cond_false, dops_nil, dops_none, xval_call, v_mov, v_bin, v_len, v_ext, v_idxA, v_ld, v_st, v_app, v_appN, v_cvs, v_bs1, pBs1, v_slc, v_conv, v_fld, v_fldA, v_new, v_box, v_mks, v_copy, v_isnil, v_nilck, v_pick, ev, evs_nil, evs_cons, fr_get_cons, fr_put_nil, fr_put_cons, fr_put_some, fr_put_none, fr_keep_nil, fr_keep_cons, fr_has_nil, fr_has_cons, Option.bind_some, Option.map_some, xbin, ibin, xresult_eq, xress_nil, xress_tmp, resV, ex_some, if_true, if_false, ite_true, ite_false, reduceIte, reduceCtorEq, Nat.reduceEqDiff, Nat.reduceLT, Nat.reduceLeDiff, Int.reduceLT, Int.reduceLE, Nat.zero_add, Nat.reduceAdd, Bool.false_eq_true, decide_eq_true_eq, decide_eq_false_iff_not, true_implies, false_implies, and_true, true_and, l6, st5, hcell]
        exact hqq
      · simp only [ofArgs, run_seq, run_block, run_ops, run_skip, run_exit, run_ret, thenQ_normal, thenQ_exit, thenQ_ret, blockQ_normal, blockQ_exit, blockQ_ret, retQ_ret, retQ_normal, ops_nil, ops_none, got_some, ops_wT, ops_wTn, ops_wF, ops_wFn, ops_wU, dops_wT, dops_wTn, dops_wF, dops_wFn, dops_wU, run_condT, run_condF, alt2_int, altB_bool, altI_int, altBB_bool, v_min, v_max, v_not, v_neg, optEv_none, optEv_some, isSome'_none, isSome'_some, pExt0, pExt1, pExt2, Bool.false_and, Bool.true_and, Bool.not_true, Bool.not_false, cond_true, cond_false, dops_nil, dops_none, xval_call, v_mov, v_bin, v_len, v_ext, v_idxA, v_ld, v_st, v_app, v_appN, v_cvs, v_bs1, pBs1, v_slc, v_conv, v_fld, v_fldA, v_new, v_box, v_mks, v_copy, v_isnil, v_nilck, v_pick, ev, evs_nil, evs_cons, fr_get_cons, fr_put_nil, fr_put_cons, fr_put_some, fr_put_none, fr_keep_nil, fr_keep_cons, fr_has_nil, fr_has_cons, Option.bind_some, Option.map_some, xbin, ibin, xresult_eq, xress_nil, xress_tmp, resV, ex_some, if_true, if_false, ite_true, ite_false, reduceIte, reduceCtorEq, Nat.reduceEqDiff, Nat.reduceLT, Nat.reduceLeDiff, Int.reduceLT, Int.reduceLE, Nat.zero_add, Nat.reduceAdd, Bool.false_eq_true, decide_eq_true_eq, decide_eq_false_iff_not, true_implies, false_implies, and_true, true_and, l6, st5, hcell]
        exact hqq
    refine hg fr hfr ?_
    refine hq _ w ⟨by show H.n ≤ H4.n; have := c5.2; omega, fun b hb => ?_⟩ ?_
    · rw [AH.get_set, if_neg (by omega)]; exact g4 b hb
    · rw [← hbs]
      exact Sl.set hb4 fun h => by have := (hwE _ h).1; omega
  subst hT
  have x123 := x1.trans (x2.trans x3)
  cases bad with
  | false =>
    generalize hT : ((.seq (.ops [⟨some 19, .ld (some 4) (.tmp 6), none⟩, ⟨none, .st 4 (.tmp 5) (.tmp 19), none⟩] [5]) .ret) : XCode) = T at fin
    simp only [ofArgs, run_seq, run_block, run_ops, run_skip, run_exit, run_ret, thenQ_normal, thenQ_exit, thenQ_ret, blockQ_normal, blockQ_exit, blockQ_ret, retQ_ret, retQ_normal, ops_nil, ops_none, got_some, ops_wT, ops_wTn, ops_wF, ops_wFn, ops_wU, dops_wT, dops_wTn, dops_wF, dops_wFn, dops_wU, run_condT, run_condF, alt2_int, altB_bool, altI_int, altBB_bool, v_min, v_max, v_not, v_neg, optEv_none, optEv_some, isSome'_none, isSome'_some, pExt0, pExt1, pExt2, Bool.false_and, Bool.true_and, Bool.not_true, Bool.not_false, cond_true, cond_false, dops_nil, dops_none, xval_call, v_mov, v_bin, v_len, v_ext, v_idxA, v_ld, v_st, v_app, v_appN, v_cvs, v_bs1, pBs1, v_slc, v_conv, v_fld, v_fldA, v_new, v_box, v_mks, v_copy, v_isnil, v_nilck, v_pick, ev, evs_nil, evs_cons, fr_get_cons, fr_put_nil, fr_put_cons, fr_put_some, fr_put_none, fr_keep_nil, fr_keep_cons, fr_has_nil, fr_has_cons, Option.bind_some, Option.map_some, xbin, ibin, xresult_eq, xress_nil, xress_tmp, resV, ex_some, if_true, if_false, ite_true, ite_false, reduceIte, reduceCtorEq, Nat.reduceEqDiff, Nat.reduceLT, Nat.reduceLeDiff, Int.reduceLT, Int.reduceLE, Nat.zero_add, Nat.reduceAdd, Bool.false_eq_true, decide_eq_true_eq, decide_eq_false_iff_not, true_implies, false_implies, and_true, true_and]
    exact fin _ H3 _ (.inr rfl) o3.1 b53 b6 (fun b hb => x123.2 b hb) rfl
  | true =>
    have l2 := b6.ld 2 w rfl
    have e1 := pIdx_one o3.1 .i64 (k : Int) k rfl (by omega : k < data.length)
    have hgd := getD_get data k (by omega)
    have e2 := byts_ld (o3.1 : Byts H3 w data) k _ hgd
    have h8 := b8_get data hb8 k
    obtain ⟨c, hc⟩ : ∃ c : Nat, data.getD k 0 = (c : Int) := ⟨(data.getD k 0).toNat, by omega⟩
    have ex := b_xor c 255 (by omega) (by omega)
    have ec : ((255 : Nat) : Int) = 255 := rfl
    rw [ec] at ex
    rw [hc] at e2
    generalize hT : ((.seq (.ops [⟨some 19, .ld (some 4) (.tmp 6), none⟩, ⟨none, .st 4 (.tmp 5) (.tmp 19), none⟩] [5]) .ret) : XCode) = T at fin
    simp only [ofArgs, run_seq, run_block, run_ops, run_skip, run_exit, run_ret, thenQ_normal, thenQ_exit, thenQ_ret, blockQ_normal, blockQ_exit, blockQ_ret, retQ_ret, retQ_normal, ops_nil, ops_none, got_some, ops_wT, ops_wTn, ops_wF, ops_wFn, ops_wU, dops_wT, dops_wTn, dops_wF, dops_wFn, dops_wU, run_condT, run_condF, alt2_int, altB_bool, altI_int, altBB_bool, v_min, v_max, v_not, v_neg, optEv_none, optEv_some, isSome'_none, isSome'_some, pExt0, pExt1, pExt2, Bool.false_and, Bool.true_and, Bool.not_true, Bool.not_false, cond_true, cond_false, dops_nil, dops_none, xval_call, v_mov, v_bin, v_len, v_ext, v_idxA, v_ld, v_st, v_app, v_appN, v_cvs, v_bs1, pBs1, v_slc, v_conv, v_fld, v_fldA, v_new, v_box, v_mks, v_copy, v_isnil, v_nilck, v_pick, ev, evs_nil, evs_cons, fr_get_cons, fr_put_nil, fr_put_cons, fr_put_some, fr_put_none, fr_keep_nil, fr_keep_cons, fr_has_nil, fr_has_cons, Option.bind_some, Option.map_some, xbin, ibin, xresult_eq, xress_nil, xress_tmp, resV, ex_some, if_true, if_false, ite_true, ite_false, reduceIte, reduceCtorEq, Nat.reduceEqDiff, Nat.reduceLT, Nat.reduceLeDiff, Int.reduceLT, Int.reduceLE, Nat.zero_add, Nat.reduceAdd, Bool.false_eq_true, decide_eq_true_eq, decide_eq_false_iff_not, true_implies, false_implies, and_true, true_and, fldAk, l2, e1, e2, ex]
    refine OwnB.flip (k := k) o3 (by omega) ?_
    intro H4 o4 s4
    have hcc : data.set k ((c ^^^ 255 : Nat) : Int) = flp data k := by unfold flp; rw [hc, Int.toNat_natCast]
    rw [hcc] at o4
    try simp only [ofArgs, run_seq, run_block, run_ops, run_skip, run_exit, run_ret, thenQ_normal, thenQ_exit, thenQ_ret, blockQ_normal, blockQ_exit, blockQ_ret, retQ_ret, retQ_normal, ops_nil, ops_none, got_some, ops_wT, ops_wTn, ops_wF, ops_wFn, ops_wU, dops_wT, dops_wTn, dops_wF, dops_wFn, dops_wU, run_condT, run_condF, alt2_int, altB_bool, altI_int, altBB_bool, v_min, v_max, v_not, v_neg, optEv_none, optEv_some, isSome'_none, isSome'_some, pExt0, pExt1, pExt2, Bool.false_and, Bool.true_and, Bool.not_true, Bool.not_false, cond_true, cond_false, dops_nil, dops_none, xval_call, v_mov, v_bin, v_len, v_ext, v_idxA, v_ld, v_st, v_app, v_appN, v_cvs, v_bs1, pBs1, v_slc, v_conv, v_fld, v_fldA, v_new, v_box, v_mks, v_copy, v_isnil, v_nilck, v_pick, ev, evs_nil, evs_cons, fr_get_cons, fr_put_nil, fr_put_cons, fr_put_some, fr_put_none, fr_keep_nil, fr_keep_cons, fr_has_nil, fr_has_cons, Option.bind_some, Option.map_some, xbin, ibin, xresult_eq, xress_nil, xress_tmp, resV, ex_some, if_true, if_false, ite_true, ite_false, reduceIte, reduceCtorEq, Nat.reduceEqDiff, Nat.reduceLT, Nat.reduceLeDiff, Int.reduceLT, Int.reduceLE, Nat.zero_add, Nat.reduceAdd, Bool.false_eq_true, decide_eq_true_eq, decide_eq_false_iff_not, true_implies, false_implies, and_true, true_and]
    refine fin _ H4 _ (.inl rfl) o4.1 (b53.same s4.n (s4.get _ b53.2 fun h => by have := (hwE _ h).1; omega)) (b6.same s4.n (s4.get _ b6.2 fun h => by have := (hwE _ h).2; omega)) (fun b hb => (s4.get b (by have := x123.1; omega) fun h => by have := (hwE _ h).1; omega).trans (x123.2 b hb)) rfl

/-! ### the plain law -/
theorem cnt_ne (n : Nat) (S : List Nat) (hS : S.Nodup) (hlt : ∀ x ∈ S, x < n) : ((List.range n).countP fun k => decide (k ∉ S)) + S.length = n := by
  induction S with
  | nil => simp
  | cons a S ih =>
    obtain ⟨ha, hS⟩ := List.nodup_cons.1 hS
    have h1 := ih hS fun x hx => hlt x (by simp [hx])
    have key : ∀ l : List Nat, l.Nodup → (l.countP fun k => decide (k ∉ S)) = (l.countP fun k => decide (k ∉ a :: S)) + if a ∈ l then 1 else 0 := by
      intro l
      induction l with
      | nil => simp
      | cons x l ih2 =>
        intro hl
        obtain ⟨hx, hl⟩ := List.nodup_cons.1 hl
        have h2 := ih2 hl
        rw [List.countP_cons, List.countP_cons, h2]
        by_cases hxa : x = a
        · subst hxa
          have e1 : decide (x ∉ S) = true := by simpa using ha
          have e2 : decide (x ∉ x :: S) = false := by simp
          rw [e1, e2, if_neg hx]; simp
        · have e1 : decide (x ∉ a :: S) = decide (x ∉ S) := by simp [hxa]
          have e2 : (a ∈ x :: l) ↔ a ∈ l := by simp [Ne.symm hxa]
          rw [e1]
          by_cases h3 : a ∈ l
          · rw [if_pos h3, if_pos (e2.2 h3)]; omega
          · rw [if_neg h3, if_neg fun h => h3 (e2.1 h)]; omega
    have := key (List.range n) List.nodup_range
    rw [if_pos (List.mem_range.2 (hlt a (by simp)))] at this
    rw [List.length_cons]; omega
theorem nT_of (f : List (Int × Bool)) (n : Nat) (hn : f.length = n) (S : List Nat) (hS : S.Nodup) (hlt : ∀ x ∈ S, x < n) (h : ∀ k p, f[k]? = some p → p.2 = decide (k ∉ S)) : nT f + S.length = n := by
  have e : f.map (·.2) = (List.range n).map fun k => decide (k ∉ S) := by
    refine List.ext_getElem? fun k => ?_
    rw [List.getElem?_map, List.getElem?_map]
    by_cases hk : k < n
    · obtain ⟨p, hp⟩ : ∃ p, f[k]? = some p := ⟨_, List.getElem?_eq_getElem (by omega)⟩
      rw [hp, List.getElem?_range hk]
      exact congrArg some (h k p hp)
    · rw [List.getElem?_eq_none (by omega), List.getElem?_eq_none (by simp; omega)]; rfl
  have e2 : f.countP (·.2) = (List.range n).countP fun k => decide (k ∉ S) := by
    have a1 : f.countP (·.2) = (f.map (·.2)).countP id := by rw [List.countP_map]; rfl
    have a2 : ((List.range n).countP fun k => decide (k ∉ S)) = ((List.range n).map fun k => decide (k ∉ S)).countP id := by rw [List.countP_map]; rfl
    rw [a1, a2, e]
  have := cnt_ne n S hS hlt
  unfold nT
  rw [e2]; omega
theorem flp_get (l : List Int) (k j : Nat) (h : k ≠ j) : (flp l k).getD j 0 = l.getD j 0 := by
  unfold flp
  simp only [List.getD_eq_getElem?_getD, List.getElem?_set_ne h]
theorem flp_at (l : List Int) (h8 : B8 l) (k : Nat) (h : k < l.length) : (flp l k).getD k 0 ≠ l.getD k 0 := by
  have h1 := b8_get l h8 k
  unfold flp
  rw [List.getD_eq_getElem?_getD, List.getElem?_set, if_pos rfl, if_pos h, Option.getD_some]
  clear h
  have : (l.getD k 0).toNat ^^^ 255 ≠ (l.getD k 0).toNat := by
    intro h
    have := congrArg (fun x => x ^^^ (l.getD k 0).toNat) h
    simp only [Nat.xor_self] at this
    rw [Nat.xor_comm _ 255, Nat.xor_assoc, Nat.xor_self] at this
    exact absurd this (by decide)
  generalize (l.getD k 0).toNat ^^^ 255 = y at *
  intro h
  exact this (by rw [← h, Int.toNat_natCast])
end Go.Proofs.Ytejedmocjdcdgaa.D

set_option linter.unusedSimpArgs false
set_option linter.unusedVariables false
namespace Go.Proofs.Ytejedmocjdcdgaa.D
open Go Go.Det

theorem good3 (data : List Int) (h8 : B8 data) (hl : data.length = 128) (a b c : Nat) (ha : a < 40) (hb : 40 ≤ b ∧ b < 80) (hc : 80 ≤ c ∧ c < 120) (s1 s2 s3 : SD) (e1 : s1.bs = flp data a) (e2 : s2.bs = flp data b) (e3 : s3.bs = flp data c) (f : List (Int × Bool)) (hf : f.length = 128) (hg : GoodF [s1, s2, s3] f) :
    f.map Prod.fst = data ∧ nT f = 125 := by
  have key : ∀ k p, f[k]? = some p → p.1 = data.getD k 0 ∧ p.2 = decide (k ∉ [a, b, c]) := by
    intro k p hp
    obtain ⟨hk, _⟩ := List.getElem?_eq_some_iff.1 hp
    obtain ⟨g1, g2, g3⟩ := hg k p hp
    have hd := b8_get data h8 k
    have g2' := g2 (data.getD k 0).toNat (by omega)
    have hdn : ((data.getD k 0).toNat : Int) = data.getD k 0 := by omega
    rw [hdn] at g2'
    have hm : [s1, s2, s3].map (byAt k) = [(flp data a).getD k 0, (flp data b).getD k 0, (flp data c).getD k 0] := by
      simp [byAt, e1, e2, e3]
    rw [hm] at g2' g3
    have fa := flp_get data a k
    have fb := flp_get data b k
    have fc := flp_get data c k
    have na := flp_at data h8 a (by omega)
    have nb := flp_at data h8 b (by omega)
    have nc := flp_at data h8 c (by omega)
    have hlen : ([s1, s2, s3] : List SD).length = 3 := rfl
    rw [hlen] at g3
    obtain ⟨x, t⟩ := p
    simp only at g1 g2' g3 ⊢
    by_cases h1 : a = k
    · subst h1
      rw [fb (by omega), fc (by omega)] at g2' g3
      generalize (flp data a).getD a 0 = y at *
      generalize data.getD a 0 = d at *
      have hne : (y == d) = false := by simpa using na
      simp only [List.count_cons, List.count_nil, beq_self_eq_true, hne, if_true, Bool.false_eq_true, if_false] at g2' g3
      have hx : x = d := by
        refine Decidable.byContradiction fun h => ?_
        have h1 : (d == x) = false := by simpa using Ne.symm h
        simp only [h1, Bool.false_eq_true, if_false] at g2'
        split at g2' <;> omega
      subst hx
      simp only [beq_self_eq_true, hne, if_true, Bool.false_eq_true, if_false] at g3
      exact ⟨rfl, by rw [g3]; simp⟩
    · by_cases h2 : b = k
      · subst h2
        rw [fa (by omega), fc (by omega)] at g2' g3
        generalize (flp data b).getD b 0 = y at *
        generalize data.getD b 0 = d at *
        have hne : (y == d) = false := by simpa using nb
        simp only [List.count_cons, List.count_nil, beq_self_eq_true, hne, if_true, Bool.false_eq_true, if_false] at g2' g3
        have hx : x = d := by
          refine Decidable.byContradiction fun h => ?_
          have h1 : (d == x) = false := by simpa using Ne.symm h
          simp only [h1, Bool.false_eq_true, if_false] at g2'
          split at g2' <;> omega
        subst hx
        simp only [beq_self_eq_true, hne, if_true, Bool.false_eq_true, if_false] at g3
        exact ⟨rfl, by rw [g3]; simp⟩
      · by_cases h3 : c = k
        · subst h3
          rw [fa (by omega), fb (by omega)] at g2' g3
          generalize (flp data c).getD c 0 = y at *
          generalize data.getD c 0 = d at *
          have hne : (y == d) = false := by simpa using nc
          simp only [List.count_cons, List.count_nil, beq_self_eq_true, hne, if_true, Bool.false_eq_true, if_false] at g2' g3
          have hx : x = d := by
            refine Decidable.byContradiction fun h => ?_
            have h1 : (d == x) = false := by simpa using Ne.symm h
            simp only [h1, Bool.false_eq_true, if_false] at g2'
            split at g2' <;> omega
          subst hx
          simp only [beq_self_eq_true, hne, if_true, Bool.false_eq_true, if_false] at g3
          exact ⟨rfl, by rw [g3]; simp⟩
        · rw [fa h1, fb h2, fc h3] at g2' g3
          generalize data.getD k 0 = d at *
          simp only [List.count_cons, List.count_nil, beq_self_eq_true, if_true] at g2' g3
          have hx : x = d := by
            refine Decidable.byContradiction fun h => ?_
            have h1 : (d == x) = false := by simpa using Ne.symm h
            simp only [h1, Bool.false_eq_true, if_false] at g2'
            omega
          subst hx
          simp only [beq_self_eq_true, if_true] at g3
          refine ⟨rfl, ?_⟩
          rw [g3]
          simp [Ne.symm h1, Ne.symm h2, Ne.symm h3]
  refine ⟨?_, ?_⟩
  · refine List.ext_getElem? fun k => ?_
    rw [List.getElem?_map]
    by_cases hk : k < 128
    · obtain ⟨p, hp⟩ : ∃ p, f[k]? = some p := ⟨_, List.getElem?_eq_getElem (by omega)⟩
      rw [hp, getD_get data k (by omega), Option.map_some, (key k p hp).1]
    · rw [List.getElem?_eq_none (by omega), List.getElem?_eq_none (by omega)]; rfl
  · have := nT_of f 128 hf [a, b, c] (by simp; omega) (by simp; omega) fun k p hp => (key k p hp).2
    simp only [List.length_cons, List.length_nil] at this
    omega
theorem good2 (data : List Int) (h8 : B8 data) (hl : data.length = 128) (a : Nat) (ha : a < 40) (s1 s2 : SD) (e1 : s1.bs = flp data a) (e2 : s2.bs = data) (f : List (Int × Bool)) (hf : f.length = 128) (hg : GoodF [s1, s2] f) : nT f = 127 := by
  have key : ∀ k p, f[k]? = some p → p.2 = decide (k ∉ [a]) := by
    intro k p hp
    obtain ⟨hk, _⟩ := List.getElem?_eq_some_iff.1 hp
    obtain ⟨g1, g2, g3⟩ := hg k p hp
    have hd := b8_get data h8 k
    have g2' := g2 (data.getD k 0).toNat (by omega)
    have hdn : ((data.getD k 0).toNat : Int) = data.getD k 0 := by omega
    rw [hdn] at g2'
    have hm : [s1, s2].map (byAt k) = [(flp data a).getD k 0, data.getD k 0] := by
      simp [byAt, e1, e2]
    rw [hm] at g2' g3
    have fa := flp_get data a k
    have na := flp_at data h8 a (by omega)
    have hlen : ([s1, s2] : List SD).length = 2 := rfl
    rw [hlen] at g3
    obtain ⟨x, t⟩ := p
    simp only at g1 g2' g3 ⊢
    by_cases h1 : a = k
    · subst h1
      generalize (flp data a).getD a 0 = y at *
      generalize data.getD a 0 = d at *
      rw [g3]
      simp only [List.count_cons, List.count_nil]
      have : ¬ ((y == x) = true ∧ (d == x) = true) := by
        rintro ⟨h1, h2⟩
        have h1 : y = x := by simpa using h1
        have h2 : d = x := by simpa using h2
        exact na (h1.trans h2.symm)
      by_cases h2 : (y == x) = true
      · by_cases h3 : (d == x) = true
        · exact absurd ⟨h2, h3⟩ this
        · simp [h2, h3]
      · by_cases h3 : (d == x) = true
        · simp [h2, h3]
        · simp [h2, h3]
    · rw [fa h1] at g2' g3
      generalize data.getD k 0 = d at *
      simp only [List.count_cons, List.count_nil, beq_self_eq_true, if_true] at g2' g3
      have hx : x = d := by
        refine Decidable.byContradiction fun h => ?_
        have h1 : (d == x) = false := by simpa using Ne.symm h
        simp only [h1, Bool.false_eq_true, if_false] at g2'
        omega
      subst hx
      simp only [beq_self_eq_true, if_true] at g3
      rw [g3]
      simp [Ne.symm h1]
  have := nT_of f 128 hf [a] (by simp) (by simp; omega) fun k p hp => key k p hp
  simp only [List.length_cons, List.length_nil] at this
  omega
end Go.Proofs.Ytejedmocjdcdgaa.D
