/- What functions that the law reaches compute, on a heap of the run's own: the conditions stand in each theorem. -/
import Derived.Test.YtkhjmmidaihbhaaCrcE
set_option linter.unusedSimpArgs false
set_option linter.unusedVariables false
namespace Go.Proofs.Ytkhjmmidaihbhaa.D
open Go Go.Det

theorem sums_ok (H : AH) (Q : Value → AH → Prop) (hq : ∀ H', HExt H H' → Q (.bool true) H') : Got (xc Try.prog tab 18 [] H) Q := by
  refine got_call (res := [.tmp 0]) rfl ?_
  have eb : ∀ (fr : Fr) (H : AH), xval Try.prog (xc Try.prog tab) ⟨some 1, .bslice 5 1 9 [.int .u8 0] [(0, .const (.int .u8 49)), (1, .const (.int .u8 50)), (2, .const (.int .u8 51)), (3, .const (.int .u8 52)), (4, .const (.int .u8 53)), (5, .const (.int .u8 54)), (6, .const (.int .u8 55)), (7, .const (.int .u8 56)), (8, .const (.int .u8 57))], none⟩ fr H =
      some (.slice (some ⟨H.n, 0, none⟩) 9 9, H.push ⟨([49, 50, 51, 52, 53, 54, 55, 56, 57] : List Int).map (.int .u8), 1, false, false⟩) := fun _ _ => rfl
  have ec := fun H => pCvs_pushed H (([49, 50, 51, 52, 53, 54, 55, 56, 57] : List Int).map (Value.int .u8)) 1 9 false (by omega)
  have hb : Byts (H.push ⟨([49, 50, 51, 52, 53, 54, 55, 56, 57] : List Int).map (.int .u8), 1, false, false⟩) (.slice (some ⟨H.n, 0, none⟩) 9 9) [49, 50, 51, 52, 53, 54, 55, 56, 57] := Sl.pushed H _ 1 9 false false rfl
  have es := sum16_xc _ _ _ hb (by intro b hb; simp at hb; omega) (by simp)
  have evv : crcFold 65535 [49, 50, 51, 52, 53, 54, 55, 56, 57] = 10673 := by decide +kernel
  rw [evv] at es
  have e3 : ((10673 : Nat) : Int) = 10673 := rfl
  rw [e3] at es
  simp only [ofArgs, run_seq, run_block, run_ops, run_skip, run_exit, run_ret, thenQ_normal, thenQ_exit, thenQ_ret, blockQ_normal, blockQ_exit, blockQ_ret, retQ_ret, retQ_normal, ops_nil, ops_none, got_some, ops_wT, ops_wTn, ops_wF, ops_wFn, ops_wU, dops_wT, dops_wTn, dops_wF, dops_wFn, dops_wU, run_condT, run_condF, alt2_int, altB_bool, altI_int, altBB_bool, v_min, v_max, v_not, v_neg, optEv_none, optEv_some, isSome'_none, isSome'_some, pExt0, pExt1, pExt2, Bool.false_and, Bool.true_and, Bool.not_true, Bool.not_false, cond_true, cond_false, dops_nil, dops_none, xval_call, v_mov, v_bin, v_len, v_ext, v_idxA, v_ld, v_st, v_app, v_appN, v_cvs, v_bs1, pBs1, v_slc, v_conv, v_fld, v_fldA, v_new, v_box, v_mks, v_copy, v_isnil, v_nilck, v_pick, ev, evs_nil, evs_cons, fr_get_cons, fr_put_nil, fr_put_cons, fr_put_some, fr_put_none, fr_keep_nil, fr_keep_cons, fr_has_nil, fr_has_cons, Option.bind_some, Option.map_some, xbin, ibin, xresult_eq, xress_nil, xress_tmp, resV, ex_some, if_true, if_false, ite_true, ite_false, reduceIte, reduceCtorEq, Nat.reduceEqDiff, Nat.reduceLT, Nat.reduceLeDiff, Int.reduceLT, Int.reduceLE, Nat.zero_add, Nat.reduceAdd, Bool.false_eq_true, decide_eq_true_eq, decide_eq_false_iff_not, true_implies, false_implies, and_true, true_and, eb, ec, es, beq_self_eq_true]
  exact hq _ (hext_push _ _)

theorem crcFold_app (l m : List Int) (s : Nat) : crcFold s (l ++ m) = crcFold (crcFold s l) m := by
  unfold crcFold; rw [List.foldl_append]
theorem xorFold_app (m : List Int) : ∀ s t : Nat, xorFold (s ^^^ t) m = s ^^^ xorFold t m := by
  induction m with
  | nil => intro s t; rfl
  | cons a m ih => intro s t; rw [xorFold_cons, xorFold_cons, Nat.xor_assoc, ih]
theorem xorFold_join (l m : List Int) : xorFold 0 (l ++ m) = xorFold 0 l ^^^ xorFold 0 m := by
  have h1 : xorFold 0 (l ++ m) = xorFold (xorFold 0 l) m := by unfold xorFold; rw [List.foldl_append]
  have h2 := xorFold_app m (xorFold 0 l) 0
  rw [Nat.xor_zero] at h2
  rw [h1, h2]
theorem xorFold_lt (l : List Int) (h : B8 l) : ∀ s, s < 256 → xorFold s l < 256 := by
  induction l with
  | nil => intro s hs; exact hs
  | cons c l ih =>
    intro s hs
    have hc := h c (by simp)
    rw [xorFold_cons]
    exact ih (fun b hb => h b (by simp [hb])) _ (Nat.xor_lt_two_pow (n := 8) (by omega) (by omega))

theorem joins_l0 (s a c : Value) (H : AH) (rest : List Int) : ∀ (pre : List Int) (x : Nat) (i N : Int) (Q : XExit → Fr → AH → Prop), Byts H s (pre ++ rest) → B8 rest → x < 65536 → pre.length + rest.length ≤ 100000000 → i = (pre.length : Int) → N = ((pre ++ rest).length : Int) →
    Q (.exit 0) [(5, a), (6, s), (7, c), (8, .int .i64 (crcFold x rest : Nat)), (21, s), (22, .int .i64 N), (23, .int .i64 N), (24, .bool false)] H →
    Run Try.prog tab (.loop xbakekeep2_CrcJoins_l0) [(5, a), (6, s), (7, c), (8, .int .i64 (x : Nat)), (21, s), (22, .int .i64 N), (23, .int .i64 i)] H Q := by
  induction rest with
  | nil =>
    intro pre x i N Q hs hb hx hl hi hN hq
    rw [run_loop]
    generalize hL : XCode.loop xbakekeep2_CrcJoins_l0 = L
    have hiN : i = N := by simp at hN; omega
    subst hiN
    have hf : ¬ i < i := by omega
    simp only [xbakekeep2_CrcJoins_l0, ofArgs, run_seq, run_block, run_ops, run_skip, run_exit, run_ret, thenQ_normal, thenQ_exit, thenQ_ret, blockQ_normal, blockQ_exit, blockQ_ret, retQ_ret, retQ_normal, ops_nil, ops_none, got_some, ops_wT, ops_wTn, ops_wF, ops_wFn, ops_wU, dops_wT, dops_wTn, dops_wF, dops_wFn, dops_wU, run_condT, run_condF, alt2_int, altB_bool, altI_int, altBB_bool, v_min, v_max, v_not, v_neg, optEv_none, optEv_some, isSome'_none, isSome'_some, pExt0, pExt1, pExt2, Bool.false_and, Bool.true_and, Bool.not_true, Bool.not_false, cond_true, cond_false, dops_nil, dops_none, xval_call, v_mov, v_bin, v_len, v_ext, v_idxA, v_ld, v_st, v_app, v_appN, v_cvs, v_bs1, pBs1, v_slc, v_conv, v_fld, v_fldA, v_new, v_box, v_mks, v_copy, v_isnil, v_nilck, v_pick, ev, evs_nil, evs_cons, fr_get_cons, fr_put_nil, fr_put_cons, fr_put_some, fr_put_none, fr_keep_nil, fr_keep_cons, fr_has_nil, fr_has_cons, Option.bind_some, Option.map_some, xbin, ibin, xresult_eq, xress_nil, xress_tmp, resV, ex_some, if_true, if_false, ite_true, ite_false, reduceIte, reduceCtorEq, Nat.reduceEqDiff, Nat.reduceLT, Nat.reduceLeDiff, Int.reduceLT, Int.reduceLE, Nat.zero_add, Nat.reduceAdd, Bool.false_eq_true, decide_eq_true_eq, decide_eq_false_iff_not, true_implies, false_implies, and_true, true_and, hf, decide_false]
    simpa [crcFold] using hq
  | cons b rest ih =>
    intro pre x i N Q hs hb hx hl hi hN hq
    simp only [List.length_cons] at hl
    rw [run_loop]
    generalize hL : XCode.loop xbakekeep2_CrcJoins_l0 = L
    have hlt : i < N := by simp at hN; omega
    have ha := hb b (by simp)
    have e1 := byts_idx hs i pre.length hi (by simp)
    have e2 := byts_ld hs pre.length b (by simp)
    have e4 := wrI (i + 1) (by omega) (by omega)
    have e5 := crcNext_xc x b.toNat H (by omega) (by omega)
    rw [Int.toNat_of_nonneg ha.1] at e5
    simp only [xbakekeep2_CrcJoins_l0, ofArgs, run_seq, run_block, run_ops, run_skip, run_exit, run_ret, thenQ_normal, thenQ_exit, thenQ_ret, blockQ_normal, blockQ_exit, blockQ_ret, retQ_ret, retQ_normal, ops_nil, ops_none, got_some, ops_wT, ops_wTn, ops_wF, ops_wFn, ops_wU, dops_wT, dops_wTn, dops_wF, dops_wFn, dops_wU, run_condT, run_condF, alt2_int, altB_bool, altI_int, altBB_bool, v_min, v_max, v_not, v_neg, optEv_none, optEv_some, isSome'_none, isSome'_some, pExt0, pExt1, pExt2, Bool.false_and, Bool.true_and, Bool.not_true, Bool.not_false, cond_true, cond_false, dops_nil, dops_none, xval_call, v_mov, v_bin, v_len, v_ext, v_idxA, v_ld, v_st, v_app, v_appN, v_cvs, v_bs1, pBs1, v_slc, v_conv, v_fld, v_fldA, v_new, v_box, v_mks, v_copy, v_isnil, v_nilck, v_pick, ev, evs_nil, evs_cons, fr_get_cons, fr_put_nil, fr_put_cons, fr_put_some, fr_put_none, fr_keep_nil, fr_keep_cons, fr_has_nil, fr_has_cons, Option.bind_some, Option.map_some, xbin, ibin, xresult_eq, xress_nil, xress_tmp, resV, ex_some, if_true, if_false, ite_true, ite_false, reduceIte, reduceCtorEq, Nat.reduceEqDiff, Nat.reduceLT, Nat.reduceLeDiff, Int.reduceLT, Int.reduceLE, Nat.zero_add, Nat.reduceAdd, Bool.false_eq_true, decide_eq_true_eq, decide_eq_false_iff_not, true_implies, false_implies, and_true, true_and, hlt, decide_true, e1, e2, e4, e5]
    subst hL
    have hn := nx_lt x b.toNat (by omega)
    rw [crcFold_cons] at hq
    generalize nx x b.toNat = y at hn hq
    exact ih (pre ++ [b]) y (i + 1) N Q (Byts.app1 hs) (fun p hp => hb p (by simp [hp])) hn (by simp; omega) (by simp; omega) (by simpa using hN) hq

theorem v_bsl2 {P : Program} {T : XTab} (fr : Fr) (H : AH) (dd : Option Nat) (e : TypeId) (z u v : Value) (x y : Operand) (hx : ev fr x = some u) (hy : ev fr y = some v) (h1 : one u = true) (h2 : vcells u = [u]) (h3 : one v = true) (h4 : vcells v = [v]) :
    xval P (xc P T) ⟨dd, .bslice e 1 2 [z] [(0, x), (1, y)], none⟩ fr H = some (.slice (some ⟨H.n, 0, none⟩) 2 2, H.push ⟨[u, v], 1, false, false⟩) := by
  rw [xval_op dd _ fr H rfl, e_bslice]
  simp only [List.map_cons, List.map_nil, rep, List.append_nil, xfill, hx, hy, h2, h4, List.all_cons, List.all_nil, h1, h3]
  rfl

set_option maxHeartbeats 4000000 in
theorem CrcJoins_ok (l m : List Int) (s1 s2 : Value) (H : AH) (hs1 : Ints H s1 l) (hs2 : Ints H s2 m) : Got (xc Try.prog tab 3 [s1, s2] H) fun v H' => v = .bool true := by
  refine got_call (res := [.tmp 4]) rfl ?_
  simp only [ofArgs, run_seq, run_block, run_ops, run_skip, run_exit, run_ret, thenQ_normal, thenQ_exit, thenQ_ret, blockQ_normal, blockQ_exit, blockQ_ret, retQ_ret, retQ_normal, ops_nil, ops_none, got_some, ops_wT, ops_wTn, ops_wF, ops_wFn, ops_wU, dops_wT, dops_wTn, dops_wF, dops_wFn, dops_wU, run_condT, run_condF, alt2_int, altB_bool, altI_int, altBB_bool, v_min, v_max, v_not, v_neg, optEv_none, optEv_some, isSome'_none, isSome'_some, pExt0, pExt1, pExt2, Bool.false_and, Bool.true_and, Bool.not_true, Bool.not_false, cond_true, cond_false, dops_nil, dops_none, xval_call, v_mov, v_bin, v_len, v_ext, v_idxA, v_ld, v_st, v_app, v_appN, v_cvs, v_bs1, pBs1, v_slc, v_conv, v_fld, v_fldA, v_new, v_box, v_mks, v_copy, v_isnil, v_nilck, v_pick, ev, evs_nil, evs_cons, fr_get_cons, fr_put_nil, fr_put_cons, fr_put_some, fr_put_none, fr_keep_nil, fr_keep_cons, fr_has_nil, fr_has_cons, Option.bind_some, Option.map_some, xbin, ibin, xresult_eq, xress_nil, xress_tmp, resV, ex_some, if_true, if_false, ite_true, ite_false, reduceIte, reduceCtorEq, Nat.reduceEqDiff, Nat.reduceLT, Nat.reduceLeDiff, Int.reduceLT, Int.reduceLE, Nat.zero_add, Nat.reduceAdd, Bool.false_eq_true, decide_eq_true_eq, decide_eq_false_iff_not, true_implies, false_implies, and_true, true_and]
  refine some_ok l 40 (by omega) (by omega) s1 H _ hs1 ?_
  intro va H1 oa x1
  have la := someB_len l 40 (by omega) (by omega)
  have ba := someB_b8 l 40
  generalize someB l 40 = a at oa la ba
  refine some_ok m 40 (by omega) (by omega) s2 H1 _ (Sl.ext x1 hs2) ?_
  intro vb H2 ob x2
  have lb := someB_len m 40 (by omega) (by omega)
  have bb := someB_b8 m 40
  generalize someB m 40 = b at ob lb bb
  have A2 : Byts H2 va a := Sl.ext x2 oa.1
  have B2 : Byts H2 vb b := ob.1
  obtain ⟨p1, p2⟩ := sl_slice A2
  obtain ⟨p3, p4⟩ := sl_slice B2
  have bs : ∀ (fr : Fr) (H : AH), ev fr (.tmp 15) = some va → ev fr (.tmp 16) = some vb → xval Try.prog (xc Try.prog tab) ⟨some 17, .bslice 23 1 2 [.slice none 0 0] [(0, .tmp 15), (1, .tmp 16)], none⟩ fr H = some (.slice (some ⟨H.n, 0, none⟩) 2 2, H.push ⟨[va, vb], 1, false, false⟩) :=
    fun fr H h1 h2 => v_bsl2 fr H (some 17) 23 _ va vb _ _ h1 h2 p1 p2 p3 p4
  simp only [ofArgs, run_seq, run_block, run_ops, run_skip, run_exit, run_ret, thenQ_normal, thenQ_exit, thenQ_ret, blockQ_normal, blockQ_exit, blockQ_ret, retQ_ret, retQ_normal, ops_nil, ops_none, got_some, ops_wT, ops_wTn, ops_wF, ops_wFn, ops_wU, dops_wT, dops_wTn, dops_wF, dops_wFn, dops_wU, run_condT, run_condF, alt2_int, altB_bool, altI_int, altBB_bool, v_min, v_max, v_not, v_neg, optEv_none, optEv_some, isSome'_none, isSome'_some, pExt0, pExt1, pExt2, Bool.false_and, Bool.true_and, Bool.not_true, Bool.not_false, cond_true, cond_false, dops_nil, dops_none, xval_call, v_mov, v_bin, v_len, v_ext, v_idxA, v_ld, v_st, v_app, v_appN, v_cvs, v_bs1, pBs1, v_slc, v_conv, v_fld, v_fldA, v_new, v_box, v_mks, v_copy, v_isnil, v_nilck, v_pick, ev, evs_nil, evs_cons, fr_get_cons, fr_put_nil, fr_put_cons, fr_put_some, fr_put_none, fr_keep_nil, fr_keep_cons, fr_has_nil, fr_has_cons, Option.bind_some, Option.map_some, xbin, ibin, xresult_eq, xress_nil, xress_tmp, resV, ex_some, if_true, if_false, ite_true, ite_false, reduceIte, reduceCtorEq, Nat.reduceEqDiff, Nat.reduceLT, Nat.reduceLeDiff, Int.reduceLT, Int.reduceLE, Nat.zero_add, Nat.reduceAdd, Bool.false_eq_true, decide_eq_true_eq, decide_eq_false_iff_not, true_implies, false_implies, and_true, true_and, bs]
  have px := hext_push H2 ⟨[va, vb], 1, false, false⟩
  refine concat2_ok a b (by omega) (by omega) _ va vb _ _ (Sl.pushed H2 [va, vb] 1 2 false false rfl) (Sl.ext px A2) (Sl.ext px B2) ?_
  intro vc H3 oc x3
  have A3 : Byts H3 va a := Sl.ext x3 (Sl.ext px A2)
  have B3 : Byts H3 vb b := Sl.ext x3 (Sl.ext px B2)
  have C3 : Byts H3 vc (a ++ b) := oc.1
  have bc : B8 (a ++ b) := fun z hz => (List.mem_append.1 hz).elim (ba z) (bb z)
  have sa := sum16_xc a va H3 A3 ba (by omega)
  have n3 := byts_len' B3
  simp only [ofArgs, run_seq, run_block, run_ops, run_skip, run_exit, run_ret, thenQ_normal, thenQ_exit, thenQ_ret, blockQ_normal, blockQ_exit, blockQ_ret, retQ_ret, retQ_normal, ops_nil, ops_none, got_some, ops_wT, ops_wTn, ops_wF, ops_wFn, ops_wU, dops_wT, dops_wTn, dops_wF, dops_wFn, dops_wU, run_condT, run_condF, alt2_int, altB_bool, altI_int, altBB_bool, v_min, v_max, v_not, v_neg, optEv_none, optEv_some, isSome'_none, isSome'_some, pExt0, pExt1, pExt2, Bool.false_and, Bool.true_and, Bool.not_true, Bool.not_false, cond_true, cond_false, dops_nil, dops_none, xval_call, v_mov, v_bin, v_len, v_ext, v_idxA, v_ld, v_st, v_app, v_appN, v_cvs, v_bs1, pBs1, v_slc, v_conv, v_fld, v_fldA, v_new, v_box, v_mks, v_copy, v_isnil, v_nilck, v_pick, ev, evs_nil, evs_cons, fr_get_cons, fr_put_nil, fr_put_cons, fr_put_some, fr_put_none, fr_keep_nil, fr_keep_cons, fr_has_nil, fr_has_cons, Option.bind_some, Option.map_some, xbin, ibin, xresult_eq, xress_nil, xress_tmp, resV, ex_some, if_true, if_false, ite_true, ite_false, reduceIte, reduceCtorEq, Nat.reduceEqDiff, Nat.reduceLT, Nat.reduceLeDiff, Int.reduceLT, Int.reduceLE, Nat.zero_add, Nat.reduceAdd, Bool.false_eq_true, decide_eq_true_eq, decide_eq_false_iff_not, true_implies, false_implies, and_true, true_and, sa, n3]
  refine joins_l0 vb va vc H3 b [] (crcFold 65535 a) _ _ _ B3 bb (crcFold_lt a ba _ (by omega)) (by simp; omega) (by simp) (by simp) ?_
  simp only [ofArgs, run_seq, run_block, run_ops, run_skip, run_exit, run_ret, thenQ_normal, thenQ_exit, thenQ_ret, blockQ_normal, blockQ_exit, blockQ_ret, retQ_ret, retQ_normal, ops_nil, ops_none, got_some, ops_wT, ops_wTn, ops_wF, ops_wFn, ops_wU, dops_wT, dops_wTn, dops_wF, dops_wFn, dops_wU, run_condT, run_condF, alt2_int, altB_bool, altI_int, altBB_bool, v_min, v_max, v_not, v_neg, optEv_none, optEv_some, isSome'_none, isSome'_some, pExt0, pExt1, pExt2, Bool.false_and, Bool.true_and, Bool.not_true, Bool.not_false, cond_true, cond_false, dops_nil, dops_none, xval_call, v_mov, v_bin, v_len, v_ext, v_idxA, v_ld, v_st, v_app, v_appN, v_cvs, v_bs1, pBs1, v_slc, v_conv, v_fld, v_fldA, v_new, v_box, v_mks, v_copy, v_isnil, v_nilck, v_pick, ev, evs_nil, evs_cons, fr_get_cons, fr_put_nil, fr_put_cons, fr_put_some, fr_put_none, fr_keep_nil, fr_keep_cons, fr_has_nil, fr_has_cons, Option.bind_some, Option.map_some, xbin, ibin, xresult_eq, xress_nil, xress_tmp, resV, ex_some, if_true, if_false, ite_true, ite_false, reduceIte, reduceCtorEq, Nat.reduceEqDiff, Nat.reduceLT, Nat.reduceLeDiff, Int.reduceLT, Int.reduceLE, Nat.zero_add, Nat.reduceAdd, Bool.false_eq_true, decide_eq_true_eq, decide_eq_false_iff_not, true_implies, false_implies, and_true, true_and]
  refine sums_ok H3 _ ?_
  intro H4 x4
  have A4 : Byts H4 va a := Sl.ext x4 A3
  have B4 : Byts H4 vb b := Sl.ext x4 B3
  have C4 : Byts H4 vc (a ++ b) := Sl.ext x4 C3
  have q1 := sum16_xc (a ++ b) vc H4 C4 bc (by simp; omega)
  have q2 := xor_xc (a ++ b) vc H4 C4 bc (by simp; omega)
  have q3 := xor_xc a va H4 A4 ba (by omega)
  have q4 := xor_xc b vb H4 B4 bb (by omega)
  have q5 := add_xc (a ++ b) vc H4 C4 bc (by simp; omega)
  have q6 := add_xc a va H4 A4 ba (by omega)
  have q7 := add_xc b vb H4 B4 bb (by omega)
  rw [crcFold_app] at q1
  rw [xorFold_join] at q2
  have ra := xorFold_lt a ba 0 (by omega)
  have rb := xorFold_lt b bb 0 (by omega)
  generalize crcFold (crcFold 65535 a) b = cc at q1
  generalize xorFold 0 a = xa at q2 q3 ra
  generalize xorFold 0 b = xb at q2 q4 rb
  have e1 := w_xor (xa : Int) (xb : Int) (by omega) (by omega) (by omega) (by omega)
  have sa0 := b8_sum a ba
  have sb0 := b8_sum b bb
  have e2 := wrI (a.sum % 256 + b.sum % 256) (by omega) (by omega)
  have e3 : Int.tmod (a.sum % 256 + b.sum % 256) 256 = (a ++ b).sum % 256 := by
    rw [Int.tmod_eq_emod_of_nonneg (by omega), List.sum_append]; omega
  have c0 : ¬ (256 : Int) = 0 := by omega
  simp only [ofArgs, run_seq, run_block, run_ops, run_skip, run_exit, run_ret, thenQ_normal, thenQ_exit, thenQ_ret, blockQ_normal, blockQ_exit, blockQ_ret, retQ_ret, retQ_normal, ops_nil, ops_none, got_some, ops_wT, ops_wTn, ops_wF, ops_wFn, ops_wU, dops_wT, dops_wTn, dops_wF, dops_wFn, dops_wU, run_condT, run_condF, alt2_int, altB_bool, altI_int, altBB_bool, v_min, v_max, v_not, v_neg, optEv_none, optEv_some, isSome'_none, isSome'_some, pExt0, pExt1, pExt2, Bool.false_and, Bool.true_and, Bool.not_true, Bool.not_false, cond_true, cond_false, dops_nil, dops_none, xval_call, v_mov, v_bin, v_len, v_ext, v_idxA, v_ld, v_st, v_app, v_appN, v_cvs, v_bs1, pBs1, v_slc, v_conv, v_fld, v_fldA, v_new, v_box, v_mks, v_copy, v_isnil, v_nilck, v_pick, ev, evs_nil, evs_cons, fr_get_cons, fr_put_nil, fr_put_cons, fr_put_some, fr_put_none, fr_keep_nil, fr_keep_cons, fr_has_nil, fr_has_cons, Option.bind_some, Option.map_some, xbin, ibin, xresult_eq, xress_nil, xress_tmp, resV, ex_some, if_true, if_false, ite_true, ite_false, reduceIte, reduceCtorEq, Nat.reduceEqDiff, Nat.reduceLT, Nat.reduceLeDiff, Int.reduceLT, Int.reduceLE, Nat.zero_add, Nat.reduceAdd, Bool.false_eq_true, decide_eq_true_eq, decide_eq_false_iff_not, true_implies, false_implies, and_true, true_and, q1, q2, q3, q4, q5, q6, q7, e1, e2, e3, c0, Int.toNat_natCast, beq_self_eq_true]
end Go.Proofs.Ytkhjmmidaihbhaa.D
