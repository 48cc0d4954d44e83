/- What functions that the law reaches compute, on a heap of the run's own: the conditions stand in each theorem. -/
import Derived.Test.YtkhjmmidaihbhaaCrcM
set_option linter.unusedSimpArgs false
set_option linter.unusedVariables false
namespace Go.Proofs.Ytkhjmmidaihbhaa.D
open Go Go.Det

theorem rounds8 (x : Nat) (h : x < 256) : crcRounds 8 x = x * 256 := by
  have key : ∀ k x, x * 2 ^ k < 65536 → crcRounds k x = x * 2 ^ k := by
    intro k
    induction k with
    | zero => intro x _; simp [crcRounds]
    | succ k ih =>
      intro x hx
      have hs : crcStep x = x * 2 := by
        unfold crcStep
        rw [if_neg]
        have h1 : x * 2 * 2 ^ k < 65536 := by rw [Nat.mul_assoc, ← Nat.pow_succ']; exact hx
        have h2 : x * 2 ≤ x * 2 * 2 ^ k := Nat.le_mul_of_pos_right _ (Nat.pow_pos (by omega))
        omega
      show crcRounds k (crcStep x) = _
      rw [hs, ih _ (by rw [Nat.mul_assoc, ← Nat.pow_succ']; exact hx), Nat.mul_assoc, ← Nat.pow_succ']
  exact key 8 x (by omega)
theorem nx_two (n : Nat) (hn : n < 65536) : nx (nx n (n / 256)) (n % 256) = 0 := by
  have hhi : n / 256 < 256 := by omega
  have hlo : n % 256 < 256 := by omega
  have e1 : n ^^^ n / 256 * 256 = n % 256 := by
    apply Nat.eq_of_testBit_eq
    intro j
    have h1 : (n / 256 * 256).testBit j = (decide (8 ≤ j) && n.testBit j) := by
      rw [show n / 256 * 256 = n / 2 ^ 8 * 2 ^ 8 from rfl, Nat.testBit_mul_two_pow, Nat.testBit_div_two_pow]
      by_cases h : 8 ≤ j
      · simp [h, show j - 8 + 8 = j by omega]
      · simp [h]
    have h2 : (n % 256).testBit j = (decide (j < 8) && n.testBit j) := Nat.testBit_mod_two_pow n 8 j
    rw [Nat.testBit_xor, h1, h2]
    by_cases h : 8 ≤ j
    · have : ¬ j < 8 := by omega
      simp [h, this]
    · have : j < 8 := by omega
      simp [h, this]
  have e2 : nx n (n / 256) = n % 256 * 256 := by
    unfold nx
    rw [and16 _ hn, e1]
    exact rounds8 _ hlo
  rw [e2]
  unfold nx
  rw [and16 _ (by omega), Nat.xor_self]
  exact rounds_zero 8
theorem crc_sealed (l : List Int) (hb : B8 l) : crcFold 65535 (sealed l) = 0 := by
  have h := crcFold_lt l hb 65535 (by omega)
  unfold sealed
  rw [crcFold_app]
  generalize crcFold 65535 l = n at h
  rw [crcFold_cons, crcFold_cons, Int.toNat_natCast, Int.toNat_natCast, nx_two n h]
  rfl

theorem finds_l0 (n0 : Nat) (s : List Int) (vs vx : Value) (a ch : Nat) (s8 : B8 s) (ha : a + 16 ≤ 8 * s.length) (hs : s.length ≤ 1000) (hc : ch < 65536) (r : Nat) :
    ∀ (k : Nat) (i : Int) (H : AH) (Q : XExit → Fr → AH → Prop), k + r = 16 → i = (k : Int) → OwnB n0 H vx (flips s a ch k) → n0 ≤ H.n →
    (∀ H', OwnB n0 H' vx (flips s a ch 16) → Keep n0 H H' → Q (.exit 0) [(1, .int .i64 (a : Int)), (2, .int .i64 (ch : Int)), (8, vs), (11, vx), (55, .int .i64 16), (56, .bool false)] H') →
    Run Try.prog tab (.loop xbakekeep2_CrcFinds_l0) [(1, .int .i64 (a : Int)), (2, .int .i64 (ch : Int)), (8, vs), (11, vx), (55, .int .i64 i)] H Q := by
  induction r with
  | zero =>
    intro k i H Q hk hi ho hn hq
    rw [run_loop]
    generalize hL : XCode.loop xbakekeep2_CrcFinds_l0 = L
    obtain rfl : k = 16 := by omega
    obtain rfl : i = 16 := by omega
    simp only [xbakekeep2_CrcFinds_l0, ofArgs, run_seq, run_block, run_ops, run_skip, run_exit, run_ret, thenQ_normal, thenQ_exit, thenQ_ret, blockQ_normal, blockQ_exit, blockQ_ret, retQ_ret, retQ_normal, ops_nil, ops_none, got_some, ops_wT, ops_wTn, ops_wF, ops_wFn, ops_wU, dops_wT, dops_wTn, dops_wF, dops_wFn, dops_wU, run_condT, run_condF, alt2_int, altB_bool, altI_int, altBB_bool, v_min, v_max, v_not, v_neg, optEv_none, optEv_some, isSome'_none, isSome'_some, pExt0, pExt1, pExt2, Bool.false_and, Bool.true_and, Bool.not_true, Bool.not_false, cond_true, cond_false, dops_nil, dops_none, xval_call, v_mov, v_bin, v_len, v_ext, v_idxA, v_ld, v_st, v_app, v_appN, v_cvs, v_bs1, pBs1, v_slc, v_conv, v_fld, v_fldA, v_new, v_box, v_mks, v_copy, v_isnil, v_nilck, v_pick, ev, evs_nil, evs_cons, fr_get_cons, fr_put_nil, fr_put_cons, fr_put_some, fr_put_none, fr_keep_nil, fr_keep_cons, fr_has_nil, fr_has_cons, Option.bind_some, Option.map_some, xbin, ibin, xresult_eq, xress_nil, xress_tmp, resV, ex_some, if_true, if_false, ite_true, ite_false, reduceIte, reduceCtorEq, Nat.reduceEqDiff, Nat.reduceLT, Nat.reduceLeDiff, Int.reduceLT, Int.reduceLE, Nat.zero_add, Nat.reduceAdd, Bool.false_eq_true, decide_eq_true_eq, decide_eq_false_iff_not, true_implies, false_implies, and_true, true_and, Int.lt_irrefl, decide_false]
    exact hq H ho (.refl _ _)
  | succ r ih =>
    intro k i H Q hk hi ho hn hq
    have ih' := ih (k + 1) (i + 1)
    rw [run_loop]
    generalize hL : XCode.loop xbakekeep2_CrcFinds_l0 = L
    rw [hL] at ih'
    have hlt : i < 16 := by omega
    have e4 := wrI (i + 1) (by omega) (by omega)
    have c1 : ¬ (i < 0) := by omega
    have t1 : min (Int.toNat i) IntKind.i64.bits = k := by
      show min _ 64 = _; omega
    have t2 := shrN ch k
    have t3 := n_and (ch >>> k) 1 (by rw [Nat.shiftRight_eq_div_pow]; exact Nat.lt_of_le_of_lt (Nat.div_le_self _ _) (by omega)) (by omega)
    have n1 : ((1 : Nat) : Int) = 1 := rfl
    rw [n1] at t3
    have t4 := and1 ch k
    cases hbit : ch.testBit k
    · rw [hbit] at t4
      have hfl : flips s a ch (k + 1) = flips s a ch k := by simp [flips, hbit]
      rw [hfl] at ih'
      simp only [xbakekeep2_CrcFinds_l0, ofArgs, run_seq, run_block, run_ops, run_skip, run_exit, run_ret, thenQ_normal, thenQ_exit, thenQ_ret, blockQ_normal, blockQ_exit, blockQ_ret, retQ_ret, retQ_normal, ops_nil, ops_none, got_some, ops_wT, ops_wTn, ops_wF, ops_wFn, ops_wU, dops_wT, dops_wTn, dops_wF, dops_wFn, dops_wU, run_condT, run_condF, alt2_int, altB_bool, altI_int, altBB_bool, v_min, v_max, v_not, v_neg, optEv_none, optEv_some, isSome'_none, isSome'_some, pExt0, pExt1, pExt2, Bool.false_and, Bool.true_and, Bool.not_true, Bool.not_false, cond_true, cond_false, dops_nil, dops_none, xval_call, v_mov, v_bin, v_len, v_ext, v_idxA, v_ld, v_st, v_app, v_appN, v_cvs, v_bs1, pBs1, v_slc, v_conv, v_fld, v_fldA, v_new, v_box, v_mks, v_copy, v_isnil, v_nilck, v_pick, ev, evs_nil, evs_cons, fr_get_cons, fr_put_nil, fr_put_cons, fr_put_some, fr_put_none, fr_keep_nil, fr_keep_cons, fr_has_nil, fr_has_cons, Option.bind_some, Option.map_some, xbin, ibin, xresult_eq, xress_nil, xress_tmp, resV, ex_some, if_true, if_false, ite_true, ite_false, reduceIte, reduceCtorEq, Nat.reduceEqDiff, Nat.reduceLT, Nat.reduceLeDiff, Int.reduceLT, Int.reduceLE, Nat.zero_add, Nat.reduceAdd, Bool.false_eq_true, decide_eq_true_eq, decide_eq_false_iff_not, true_implies, false_implies, and_true, true_and, hlt, decide_true, c1, t1, t2, t3, t4, e4]
      exact ih' H Q (by omega) (by omega) ho hn hq
    · rw [hbit] at t4
      have hfl : flips s a ch (k + 1) = flip (flips s a ch k) (a + k) := by simp [flips, hbit]
      rw [hfl] at ih'
      have hlen := flips_len s a ch k
      have hb8 := flips_b8 s s8 a ch k
      generalize flips s a ch k = x at ho hfl ih' hlen hb8
      have w1 := wrI ((a : Int) + i) (by omega) (by omega)
      have e0 : (a : Int) + i = ((a + k : Nat) : Int) := by omega
      rw [e0] at w1
      have q8 : ¬ ((8 : Int) = 0) := by omega
      have u1 : Int.tdiv ((a + k : Nat) : Int) 8 = (((a + k) / 8 : Nat) : Int) := by rw [Int.tdiv_eq_ediv_of_nonneg (by omega)]; omega
      have u2 : Int.tmod ((a + k : Nat) : Int) 8 = (((a + k) % 8 : Nat) : Int) := by rw [Int.tmod_eq_emod_of_nonneg (by omega)]; omega
      have u3 := wrI (((a + k) / 8 : Nat) : Int) (by omega) (by omega)
      have g1 := getD_get x ((a + k) / 8) (by omega)
      have p1 := b8_get x hb8 ((a + k) / 8)
      obtain ⟨y, hy, hy2⟩ : ∃ y : Nat, x.getD ((a + k) / 8) 0 = (y : Int) ∧ y < 256 := ⟨(x.getD ((a + k) / 8) 0).toNat, by omega, by omega⟩
      have e1 := byts_idx ho.1 (((a + k) / 8 : Nat) : Int) ((a + k) / 8) rfl (by omega)
      rw [hy] at g1
      have e2 := byts_ld ho.1 ((a + k) / 8) (y : Int) g1
      have u4 : ¬ ((((a + k) % 8 : Nat) : Int) < 0) := by omega
      have u5 : min (Int.toNat (((a + k) % 8 : Nat) : Int)) IntKind.u8.bits = (a + k) % 8 := by
        rw [Int.toNat_natCast]; show min _ 8 = _; omega
      have u6 : (128 : Int).fdiv (2 ^ ((a + k) % 8)) = ((128 >>> ((a + k) % 8) : Nat) : Int) := shrN 128 _
      have u7 := b_xor y (128 >>> ((a + k) % 8)) hy2 (shr_lt _)
      simp only [xbakekeep2_CrcFinds_l0, ofArgs, run_seq, run_block, run_ops, run_skip, run_exit, run_ret, thenQ_normal, thenQ_exit, thenQ_ret, blockQ_normal, blockQ_exit, blockQ_ret, retQ_ret, retQ_normal, ops_nil, ops_none, got_some, ops_wT, ops_wTn, ops_wF, ops_wFn, ops_wU, dops_wT, dops_wTn, dops_wF, dops_wFn, dops_wU, run_condT, run_condF, alt2_int, altB_bool, altI_int, altBB_bool, v_min, v_max, v_not, v_neg, optEv_none, optEv_some, isSome'_none, isSome'_some, pExt0, pExt1, pExt2, Bool.false_and, Bool.true_and, Bool.not_true, Bool.not_false, cond_true, cond_false, dops_nil, dops_none, xval_call, v_mov, v_bin, v_len, v_ext, v_idxA, v_ld, v_st, v_app, v_appN, v_cvs, v_bs1, pBs1, v_slc, v_conv, v_fld, v_fldA, v_new, v_box, v_mks, v_copy, v_isnil, v_nilck, v_pick, ev, evs_nil, evs_cons, fr_get_cons, fr_put_nil, fr_put_cons, fr_put_some, fr_put_none, fr_keep_nil, fr_keep_cons, fr_has_nil, fr_has_cons, Option.bind_some, Option.map_some, xbin, ibin, xresult_eq, xress_nil, xress_tmp, resV, ex_some, if_true, if_false, ite_true, ite_false, reduceIte, reduceCtorEq, Nat.reduceEqDiff, Nat.reduceLT, Nat.reduceLeDiff, Int.reduceLT, Int.reduceLE, Nat.zero_add, Nat.reduceAdd, Bool.false_eq_true, decide_eq_true_eq, decide_eq_false_iff_not, true_implies, false_implies, and_true, true_and, hlt, decide_true, c1, t1, t2, t3, t4, e0, w1]
      refine run_dops _ _ _ _ _ rfl ?_
      simp only [ofArgs, run_seq, run_block, run_ops, run_skip, run_exit, run_ret, thenQ_normal, thenQ_exit, thenQ_ret, blockQ_normal, blockQ_exit, blockQ_ret, retQ_ret, retQ_normal, ops_nil, ops_none, got_some, ops_wT, ops_wTn, ops_wF, ops_wFn, ops_wU, dops_wT, dops_wTn, dops_wF, dops_wFn, dops_wU, run_condT, run_condF, alt2_int, altB_bool, altI_int, altBB_bool, v_min, v_max, v_not, v_neg, optEv_none, optEv_some, isSome'_none, isSome'_some, pExt0, pExt1, pExt2, Bool.false_and, Bool.true_and, Bool.not_true, Bool.not_false, cond_true, cond_false, dops_nil, dops_none, xval_call, v_mov, v_bin, v_len, v_ext, v_idxA, v_ld, v_st, v_app, v_appN, v_cvs, v_bs1, pBs1, v_slc, v_conv, v_fld, v_fldA, v_new, v_box, v_mks, v_copy, v_isnil, v_nilck, v_pick, ev, evs_nil, evs_cons, fr_get_cons, fr_put_nil, fr_put_cons, fr_put_some, fr_put_none, fr_keep_nil, fr_keep_cons, fr_has_nil, fr_has_cons, Option.bind_some, Option.map_some, xbin, ibin, xresult_eq, xress_nil, xress_tmp, resV, ex_some, if_true, if_false, ite_true, ite_false, reduceIte, reduceCtorEq, Nat.reduceEqDiff, Nat.reduceLT, Nat.reduceLeDiff, Int.reduceLT, Int.reduceLE, Nat.zero_add, Nat.reduceAdd, Bool.false_eq_true, decide_eq_true_eq, decide_eq_false_iff_not, true_implies, false_implies, and_true, true_and, q8, u1, u2, u3, u4, u5, u6, u7, e1, e2]
      refine pSt_own ho (by simp; omega) rfl rfl ?_
      intro H' ho' hs'
      simp only [ofArgs, run_seq, run_block, run_ops, run_skip, run_exit, run_ret, thenQ_normal, thenQ_exit, thenQ_ret, blockQ_normal, blockQ_exit, blockQ_ret, retQ_ret, retQ_normal, ops_nil, ops_none, got_some, ops_wT, ops_wTn, ops_wF, ops_wFn, ops_wU, dops_wT, dops_wTn, dops_wF, dops_wFn, dops_wU, run_condT, run_condF, alt2_int, altB_bool, altI_int, altBB_bool, v_min, v_max, v_not, v_neg, optEv_none, optEv_some, isSome'_none, isSome'_some, pExt0, pExt1, pExt2, Bool.false_and, Bool.true_and, Bool.not_true, Bool.not_false, cond_true, cond_false, dops_nil, dops_none, xval_call, v_mov, v_bin, v_len, v_ext, v_idxA, v_ld, v_st, v_app, v_appN, v_cvs, v_bs1, pBs1, v_slc, v_conv, v_fld, v_fldA, v_new, v_box, v_mks, v_copy, v_isnil, v_nilck, v_pick, ev, evs_nil, evs_cons, fr_get_cons, fr_put_nil, fr_put_cons, fr_put_some, fr_put_none, fr_keep_nil, fr_keep_cons, fr_has_nil, fr_has_cons, Option.bind_some, Option.map_some, xbin, ibin, xresult_eq, xress_nil, xress_tmp, resV, ex_some, if_true, if_false, ite_true, ite_false, reduceIte, reduceCtorEq, Nat.reduceEqDiff, Nat.reduceLT, Nat.reduceLeDiff, Int.reduceLT, Int.reduceLE, Nat.zero_add, Nat.reduceAdd, Bool.false_eq_true, decide_eq_true_eq, decide_eq_false_iff_not, true_implies, false_implies, and_true, true_and, e4]
      have ho2 : OwnB n0 H' vx (flip x (a + k)) := by
        unfold flip OwnB
        rw [hy, Int.toNat_natCast, List.length_set, List.map_set]
        exact ho'
      have hk' := hs'.keep ho hn
      exact ih' H' Q (by omega) (by omega) ho2 (by have := hk'.1; omega) (fun H2 o2 k2 => hq H2 o2 (hk'.trans k2))

set_option maxHeartbeats 4000000 in
theorem CrcFinds_ok (l : List Int) (at0 change : Int) (s1 : Value) (H : AH) (hs1 : Ints H s1 l) : Got (xc Try.prog tab 4 [s1, .int .i64 at0, .int .i64 change] H) fun v H' => v = .bool true := by
  refine got_call (res := [.tmp 6]) rfl ?_
  simp only [ofArgs, run_seq, run_block, run_ops, run_skip, run_exit, run_ret, thenQ_normal, thenQ_exit, thenQ_ret, blockQ_normal, blockQ_exit, blockQ_ret, retQ_ret, retQ_normal, ops_nil, ops_none, got_some, ops_wT, ops_wTn, ops_wF, ops_wFn, ops_wU, dops_wT, dops_wTn, dops_wF, dops_wFn, dops_wU, run_condT, run_condF, alt2_int, altB_bool, altI_int, altBB_bool, v_min, v_max, v_not, v_neg, optEv_none, optEv_some, isSome'_none, isSome'_some, pExt0, pExt1, pExt2, Bool.false_and, Bool.true_and, Bool.not_true, Bool.not_false, cond_true, cond_false, dops_nil, dops_none, xval_call, v_mov, v_bin, v_len, v_ext, v_idxA, v_ld, v_st, v_app, v_appN, v_cvs, v_bs1, pBs1, v_slc, v_conv, v_fld, v_fldA, v_new, v_box, v_mks, v_copy, v_isnil, v_nilck, v_pick, ev, evs_nil, evs_cons, fr_get_cons, fr_put_nil, fr_put_cons, fr_put_some, fr_put_none, fr_keep_nil, fr_keep_cons, fr_has_nil, fr_has_cons, Option.bind_some, Option.map_some, xbin, ibin, xresult_eq, xress_nil, xress_tmp, resV, ex_some, if_true, if_false, ite_true, ite_false, reduceIte, reduceCtorEq, Nat.reduceEqDiff, Nat.reduceLT, Nat.reduceLeDiff, Int.reduceLT, Int.reduceLE, Nat.zero_add, Nat.reduceAdd, Bool.false_eq_true, decide_eq_true_eq, decide_eq_false_iff_not, true_implies, false_implies, and_true, true_and]
  refine some_ok l 40 (by omega) (by omega) s1 H _ hs1 ?_
  intro va H1 oa x1
  have la := someB_len l 40 (by omega) (by omega)
  have ba := someB_b8 l 40
  generalize someB l 40 = a at oa la ba
  refine seal_ok a (by omega) ba va H1 _ oa.1 ?_
  intro vs H2 os x2
  have lsl := sealed_len a
  have lsb := sealed_b8 a ba
  have hz : crcFold 65535 (sealed a) = 0 := crc_sealed a ba
  have htake : (sealed a).take ((sealed a).length - 2) = a := by simp [sealed]
  generalize sealed a = s at os lsl lsb hz htake
  have S2 : Byts H2 vs s := os.1
  refine open_ok s (by omega) (by omega) lsb vs H2 _ S2 hz ?_
  intro vb H3 ob x3
  rw [htake] at ob
  simp only [ofArgs, run_seq, run_block, run_ops, run_skip, run_exit, run_ret, thenQ_normal, thenQ_exit, thenQ_ret, blockQ_normal, blockQ_exit, blockQ_ret, retQ_ret, retQ_normal, ops_nil, ops_none, got_some, ops_wT, ops_wTn, ops_wF, ops_wFn, ops_wU, dops_wT, dops_wTn, dops_wF, dops_wFn, dops_wU, run_condT, run_condF, alt2_int, altB_bool, altI_int, altBB_bool, v_min, v_max, v_not, v_neg, optEv_none, optEv_some, isSome'_none, isSome'_some, pExt0, pExt1, pExt2, Bool.false_and, Bool.true_and, Bool.not_true, Bool.not_false, cond_true, cond_false, dops_nil, dops_none, xval_call, v_mov, v_bin, v_len, v_ext, v_idxA, v_ld, v_st, v_app, v_appN, v_cvs, v_bs1, pBs1, v_slc, v_conv, v_fld, v_fldA, v_new, v_box, v_mks, v_copy, v_isnil, v_nilck, v_pick, ev, evs_nil, evs_cons, fr_get_cons, fr_put_nil, fr_put_cons, fr_put_some, fr_put_none, fr_keep_nil, fr_keep_cons, fr_has_nil, fr_has_cons, Option.bind_some, Option.map_some, xbin, ibin, xresult_eq, xress_nil, xress_tmp, resV, ex_some, if_true, if_false, ite_true, ite_false, reduceIte, reduceCtorEq, Nat.reduceEqDiff, Nat.reduceLT, Nat.reduceLeDiff, Int.reduceLT, Int.reduceLE, Nat.zero_add, Nat.reduceAdd, Bool.false_eq_true, decide_eq_true_eq, decide_eq_false_iff_not, true_implies, false_implies, and_true, true_and]
  refine sums_ok H3 _ ?_
  intro H4 x4
  have A4 : Byts H4 va a := Sl.ext (x2.trans (x3.trans x4)) oa.1
  have B4 : Byts H4 vb a := Sl.ext x4 ob.1
  have S4 : Byts H4 vs s := Sl.ext (x3.trans x4) S2
  have q1 := equalB_xc a a va vb H4 A4 B4 (by omega) (by omega)
  have q2 := byts_len' S4
  have q3 := byts_len' A4
  have w1 := wrI ((a.length : Int) + 2) (by omega) (by omega)
  have c1 : ((s.length : Int) != (a.length : Int) + 2) = false := by simp; omega
  have q4 := below_xc change 65535 H4 (by omega) (by omega)
  have h0 := Int.emod_nonneg change (by omega : (65535 : Int) ≠ 0)
  have h1 := Int.emod_lt_of_pos change (by omega : (0 : Int) < 65535)
  obtain ⟨ch, hch⟩ : ∃ ch : Nat, 1 + change % 65535 = (ch : Int) := ⟨(1 + change % 65535).toNat, by omega⟩
  have w2 := wrI (1 + change % 65535) (by omega) (by omega)
  rw [hch] at w2
  have w3 := wrI (8 * (s.length : Int)) (by omega) (by omega)
  have w4 := wrI (8 * (s.length : Int) - 15) (by omega) (by omega)
  have hpos : 0 < 8 * (s.length : Int) - 15 := by omega
  have q5 := below_xc at0 (8 * (s.length : Int) - 15) H4 hpos (by omega)
  have h2 := Int.emod_nonneg at0 (by omega : 8 * (s.length : Int) - 15 ≠ 0)
  have h3 := Int.emod_lt_of_pos at0 hpos
  obtain ⟨p, hp⟩ : ∃ p : Nat, at0 % (8 * (s.length : Int) - 15) = (p : Int) := ⟨(at0 % (8 * (s.length : Int) - 15)).toNat, by omega⟩
  rw [hp] at q5 h3
  simp only [ofArgs, run_seq, run_block, run_ops, run_skip, run_exit, run_ret, thenQ_normal, thenQ_exit, thenQ_ret, blockQ_normal, blockQ_exit, blockQ_ret, retQ_ret, retQ_normal, ops_nil, ops_none, got_some, ops_wT, ops_wTn, ops_wF, ops_wFn, ops_wU, dops_wT, dops_wTn, dops_wF, dops_wFn, dops_wU, run_condT, run_condF, alt2_int, altB_bool, altI_int, altBB_bool, v_min, v_max, v_not, v_neg, optEv_none, optEv_some, isSome'_none, isSome'_some, pExt0, pExt1, pExt2, Bool.false_and, Bool.true_and, Bool.not_true, Bool.not_false, cond_true, cond_false, dops_nil, dops_none, xval_call, v_mov, v_bin, v_len, v_ext, v_idxA, v_ld, v_st, v_app, v_appN, v_cvs, v_bs1, pBs1, v_slc, v_conv, v_fld, v_fldA, v_new, v_box, v_mks, v_copy, v_isnil, v_nilck, v_pick, ev, evs_nil, evs_cons, fr_get_cons, fr_put_nil, fr_put_cons, fr_put_some, fr_put_none, fr_keep_nil, fr_keep_cons, fr_has_nil, fr_has_cons, Option.bind_some, Option.map_some, xbin, ibin, xresult_eq, xress_nil, xress_tmp, resV, ex_some, if_true, if_false, ite_true, ite_false, reduceIte, reduceCtorEq, Nat.reduceEqDiff, Nat.reduceLT, Nat.reduceLeDiff, Int.reduceLT, Int.reduceLE, Nat.zero_add, Nat.reduceAdd, Bool.false_eq_true, decide_eq_true_eq, decide_eq_false_iff_not, true_implies, false_implies, and_true, true_and, q1, q2, q3, q4, q5, w1, w2, w3, w4, c1, hch, decide_true]
  have hnn : ∃ B o l c, vs = .slice (some ⟨B, o, none⟩) l c := by
    obtain ⟨B, o, c, blk, e, _⟩ := S4.live (by omega)
    exact ⟨B, o, _, c, e⟩
  refine clone_ok s (by omega) vs H4 _ S4 hnn ?_
  intro vx H5 ox x5
  refine finds_l0 H4.n s vs vx p ch lsb (by omega) (by omega) (by omega) 16 0 0 H5 _ (by omega) rfl ox x5.1 ?_
  intro H6 o6 k6
  have S6 : Byts H6 vs s := Sl.keep (x5.keep (Nat.le_refl _) |>.trans k6) S4 (fun b hb => Sl.lt S4 hb)
  have X6 : Byts H6 vx (flips s p ch 16) := o6.1
  have hx0 := crc_found s lsb p ch (by omega) (by omega) (by omega) hz
  have hbu := burst_found s p ch (by omega) (by omega) (by omega)
  have f8 := flips_b8 s lsb p ch 16
  have fl := flips_len s p ch 16
  have bc := burst_comm s (flips s p ch 16) (8 * s.length)
  have r1 := open_bad (flips s p ch 16) (by omega) (by omega) f8 vx H6 X6 hx0
  have r2 := burst_xc vs vx s (flips s p ch 16) H6 S6 X6 lsb f8 (by omega) (by omega)
  have r3 := burst_xc vx vs (flips s p ch 16) s H6 X6 S6 f8 lsb (by omega) (by omega)
  rw [fl, bc] at r3
  generalize bv (fun i => bitAt s i ^^ bitAt (flips s p ch 16) i) (8 * s.length) = n at hbu r2 r3
  have c2 : n ≥ 1 := hbu.1
  have c3 : n ≤ 16 := hbu.2
  simp only [ofArgs, run_seq, run_block, run_ops, run_skip, run_exit, run_ret, thenQ_normal, thenQ_exit, thenQ_ret, blockQ_normal, blockQ_exit, blockQ_ret, retQ_ret, retQ_normal, ops_nil, ops_none, got_some, ops_wT, ops_wTn, ops_wF, ops_wFn, ops_wU, dops_wT, dops_wTn, dops_wF, dops_wFn, dops_wU, run_condT, run_condF, alt2_int, altB_bool, altI_int, altBB_bool, v_min, v_max, v_not, v_neg, optEv_none, optEv_some, isSome'_none, isSome'_some, pExt0, pExt1, pExt2, Bool.false_and, Bool.true_and, Bool.not_true, Bool.not_false, cond_true, cond_false, dops_nil, dops_none, xval_call, v_mov, v_bin, v_len, v_ext, v_idxA, v_ld, v_st, v_app, v_appN, v_cvs, v_bs1, pBs1, v_slc, v_conv, v_fld, v_fldA, v_new, v_box, v_mks, v_copy, v_isnil, v_nilck, v_pick, ev, evs_nil, evs_cons, fr_get_cons, fr_put_nil, fr_put_cons, fr_put_some, fr_put_none, fr_keep_nil, fr_keep_cons, fr_has_nil, fr_has_cons, Option.bind_some, Option.map_some, xbin, ibin, xresult_eq, xress_nil, xress_tmp, resV, ex_some, if_true, if_false, ite_true, ite_false, reduceIte, reduceCtorEq, Nat.reduceEqDiff, Nat.reduceLT, Nat.reduceLeDiff, Int.reduceLT, Int.reduceLE, Nat.zero_add, Nat.reduceAdd, Bool.false_eq_true, decide_eq_true_eq, decide_eq_false_iff_not, true_implies, false_implies, and_true, true_and, r1, r2, r3, c2, c3, decide_true, beq_self_eq_true]
end Go.Proofs.Ytkhjmmidaihbhaa.D
