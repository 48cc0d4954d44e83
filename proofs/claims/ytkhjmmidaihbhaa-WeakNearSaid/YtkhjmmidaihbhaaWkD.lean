/- What functions that the law reaches compute, on a heap of the run's own: the conditions stand in each theorem. -/
import Derived.Test.YtkhjmmidaihbhaaWkC
set_option linter.unusedSimpArgs false
set_option linter.unusedVariables false
namespace Go.Proofs.Ytkhjmmidaihbhaa.D
open Go Go.Det

structure LInv (n1 B8 : Nat) (t : List Int) (vb : Value) (H : AH) (spv : Value) (sp : List Spn) (a : Nat) (most : Int) : Prop where
  box : H.get B8 = some ⟨[vb, spv], 1, false, false⟩
  base : Ints H vb t
  own : Own n1 3 H spv sp.length (spc sp)
  le : n1 ≤ H.n
  ok : SpOk t.length sp
  asc : ∀ r, SpAsc a r → SpAsc 0 (sp ++ r)
  by1 : ∀ s ∈ sp, (s.2.2 : Int) ≤ most
  m0 : 0 ≤ most
  m1 : most ≤ 40
  len : sp.length ≤ 10
theorem LInv.asc0 {n1 B8 : Nat} {t : List Int} {vb : Value} {H : AH} {spv : Value} {sp : List Spn} {a : Nat} {most : Int} (h : LInv n1 B8 t vb H spv sp a most) : SpAsc 0 sp := by
  have := h.asc [] trivial; simpa using this
theorem ld2_1' {H : AH} {B : Nat} {a b : Value} (h : H.get B = some ⟨[a, b], 1, false, false⟩) : pLd none (.pointer (some ⟨B, 1, none⟩)) H = some (b, H) := by unfold pLd; simp only [h]; rfl
theorem st2_1' {H : AH} {B : Nat} {a b b' : Value} (h : H.get B = some ⟨[a, b], 1, false, false⟩) (h1 : one b' = true) (h2 : vcells b' = [b']) : pSt 1 (.pointer (some ⟨B, 1, none⟩)) b' H = some (undef, H.set B ⟨[a, b'], 1, false, false⟩) := by
  unfold pSt
  simp only [h, Option.bind_some, h2, List.all_cons, List.all_nil, h1]
  rfl

set_option maxHeartbeats 4000000 in
theorem wk_l0 (n0 n1 B8 B11 : Nat) (t : List Int) (vb : Value) (seed : Int) (htl : t.length ≤ 1000) (hB80 : n0 ≤ B8) (hB8 : B8 < n1) (hB11 : B11 < n1) (hne : B8 ≠ B11) (hvb : ∀ b, inB vb b → b < n1 ∧ b ≠ B8 ∧ b ≠ B11) (r : Nat) :
    ∀ (sp : List Spn) (spv : Value) (a : Nat) (most : Int) (lst : List Int) (vs : Value) (H : AH) (i N : Int) (Q : XExit → Fr → AH → Prop), Strm n0 H B11 vs lst → LInv n1 B8 t vb H spv sp a most → a ≤ 100000 - 100 * r → i + r = N → 0 ≤ i → N ≤ 9 → sp.length + r ≤ 9 →
    (∀ H' spv' sp' a' most' i', LInv n1 B8 t vb H' spv' sp' a' most' → Q (.exit 0) [(2, .int .i64 seed), (7, vb), (8, .pointer (some ⟨B8, 0, none⟩)), (9, .int .i64 (a' : Int)), (10, .int .i64 most'), (11, .pointer (some ⟨B11, 0, none⟩)), (31, .int .i64 N), (32, .int .i64 i'), (33, .bool false)] H') →
    (∀ H' spv' sp' a' most' B' i', LInv n1 B8 t vb H' spv' sp' a' most' → Q (.exit 0) [(2, .int .i64 seed), (7, vb), (8, .pointer (some ⟨B8, 0, none⟩)), (10, .int .i64 most'), (11, .pointer (some ⟨B11, 0, none⟩)), (12, .pointer (some ⟨B', 0, none⟩)), (31, .int .i64 N), (32, .int .i64 i'), (50, .bool true)] H') →
    Run Try.prog tab (.loop xbakekeep2_WeakNear_l0) [(2, .int .i64 seed), (7, vb), (8, .pointer (some ⟨B8, 0, none⟩)), (9, .int .i64 (a : Int)), (10, .int .i64 most), (11, .pointer (some ⟨B11, 0, none⟩)), (31, .int .i64 N), (32, .int .i64 i)] H Q := by
  induction r with
  | zero =>
    intro sp spv a most lst vs H i N Q hst hv ha hi hi0 hN hl hq1 hq2
    rw [run_loop]
    generalize hL : XCode.loop xbakekeep2_WeakNear_l0 = L
    have hf : ¬ i < N := by omega
    simp only [xbakekeep2_WeakNear_l0, ofArgs, run_seq, run_block, run_ops, run_skip, run_exit, run_ret, thenQ_normal, thenQ_exit, thenQ_ret, blockQ_normal, blockQ_exit, blockQ_ret, retQ_ret, retQ_normal, ops_nil, ops_none, got_some, ops_wT, ops_wTn, ops_wF, ops_wFn, ops_wU, dops_wT, dops_wTn, dops_wF, dops_wFn, dops_wU, run_condT, run_condF, alt2_int, altB_bool, altI_int, altBB_bool, v_min, v_max, v_not, v_neg, optEv_none, optEv_some, isSome'_none, isSome'_some, pExt0, pExt1, pExt2, Bool.false_and, Bool.true_and, Bool.not_true, Bool.not_false, cond_true, cond_false, dops_nil, dops_none, xval_call, v_mov, v_bin, v_len, v_ext, v_idxA, v_ld, v_st, v_app, v_appN, v_cvs, v_bs1, pBs1, v_slc, v_conv, v_fld, v_fldA, v_new, v_box, v_mks, v_copy, v_isnil, v_nilck, v_pick, ev, evs_nil, evs_cons, fr_get_cons, fr_put_nil, fr_put_cons, fr_put_some, fr_put_none, fr_keep_nil, fr_keep_cons, fr_has_nil, fr_has_cons, Option.bind_some, Option.map_some, xbin, ibin, xresult_eq, xress_nil, xress_tmp, resV, ex_some, if_true, if_false, ite_true, ite_false, reduceIte, reduceCtorEq, Nat.reduceEqDiff, Nat.reduceLT, Nat.reduceLeDiff, Int.reduceLT, Int.reduceLE, Nat.zero_add, Nat.reduceAdd, Bool.false_eq_true, decide_eq_true_eq, decide_eq_false_iff_not, true_implies, false_implies, and_true, true_and, hf, decide_false]
    exact hq1 H spv sp a most i hv
  | succ r ih =>
    intro sp spv a most lst vs H i N Q hst hv ha hi hi0 hN hl hq1 hq2
    rw [run_loop]
    generalize hL : XCode.loop xbakekeep2_WeakNear_l0 = L
    have hlt : i < N := by omega
    simp only [xbakekeep2_WeakNear_l0, ofArgs, run_seq, run_block, run_ops, run_skip, run_exit, run_ret, thenQ_normal, thenQ_exit, thenQ_ret, blockQ_normal, blockQ_exit, blockQ_ret, retQ_ret, retQ_normal, ops_nil, ops_none, got_some, ops_wT, ops_wTn, ops_wF, ops_wFn, ops_wU, dops_wT, dops_wTn, dops_wF, dops_wFn, dops_wU, run_condT, run_condF, alt2_int, altB_bool, altI_int, altBB_bool, v_min, v_max, v_not, v_neg, optEv_none, optEv_some, isSome'_none, isSome'_some, pExt0, pExt1, pExt2, Bool.false_and, Bool.true_and, Bool.not_true, Bool.not_false, cond_true, cond_false, dops_nil, dops_none, xval_call, v_mov, v_bin, v_len, v_ext, v_idxA, v_ld, v_st, v_app, v_appN, v_cvs, v_bs1, pBs1, v_slc, v_conv, v_fld, v_fldA, v_new, v_box, v_mks, v_copy, v_isnil, v_nilck, v_pick, ev, evs_nil, evs_cons, fr_get_cons, fr_put_nil, fr_put_cons, fr_put_some, fr_put_none, fr_keep_nil, fr_keep_cons, fr_has_nil, fr_has_cons, Option.bind_some, Option.map_some, xbin, ibin, xresult_eq, xress_nil, xress_tmp, resV, ex_some, if_true, if_false, ite_true, ite_false, reduceIte, reduceCtorEq, Nat.reduceEqDiff, Nat.reduceLT, Nat.reduceLeDiff, Int.reduceLT, Int.reduceLE, Nat.zero_add, Nat.reduceAdd, Bool.false_eq_true, decide_eq_true_eq, decide_eq_false_iff_not, true_implies, false_implies, and_true, true_and, hlt, decide_true]
    refine next_ok n0 B11 vs lst 5 (by decide) (by decide) H _ hst ?_
    intro v1 H1 n1' g1 st1
    have z0 := Int.emod_nonneg (lst.headD 0) (by decide : (5 : Int) ≠ 0)
    have z1 := Int.emod_lt_of_pos (lst.headD 0) (by decide : (0 : Int) < 5)
    generalize lst.headD 0 % 5 = x5 at *
    obtain ⟨a1, ha1⟩ : ∃ a1 : Nat, (a : Int) + x5 = (a1 : Int) := ⟨((a : Int) + x5).toNat, by omega⟩
    have w1 : IntKind.i64.wrap ((a : Int) + x5) = (a1 : Int) := by rw [wrI _ (by omega) (by omega), ha1]
    simp only [ofArgs, run_seq, run_block, run_ops, run_skip, run_exit, run_ret, thenQ_normal, thenQ_exit, thenQ_ret, blockQ_normal, blockQ_exit, blockQ_ret, retQ_ret, retQ_normal, ops_nil, ops_none, got_some, ops_wT, ops_wTn, ops_wF, ops_wFn, ops_wU, dops_wT, dops_wTn, dops_wF, dops_wFn, dops_wU, run_condT, run_condF, alt2_int, altB_bool, altI_int, altBB_bool, v_min, v_max, v_not, v_neg, optEv_none, optEv_some, isSome'_none, isSome'_some, pExt0, pExt1, pExt2, Bool.false_and, Bool.true_and, Bool.not_true, Bool.not_false, cond_true, cond_false, dops_nil, dops_none, xval_call, v_mov, v_bin, v_len, v_ext, v_idxA, v_ld, v_st, v_app, v_appN, v_cvs, v_bs1, pBs1, v_slc, v_conv, v_fld, v_fldA, v_new, v_box, v_mks, v_copy, v_isnil, v_nilck, v_pick, ev, evs_nil, evs_cons, fr_get_cons, fr_put_nil, fr_put_cons, fr_put_some, fr_put_none, fr_keep_nil, fr_keep_cons, fr_has_nil, fr_has_cons, Option.bind_some, Option.map_some, xbin, ibin, xresult_eq, xress_nil, xress_tmp, resV, ex_some, if_true, if_false, ite_true, ite_false, reduceIte, reduceCtorEq, Nat.reduceEqDiff, Nat.reduceLT, Nat.reduceLeDiff, Int.reduceLT, Int.reduceLE, Nat.zero_add, Nat.reduceAdd, Bool.false_eq_true, decide_eq_true_eq, decide_eq_false_iff_not, true_implies, false_implies, and_true, true_and, w1]
    refine next_ok n0 B11 v1 lst.tail 6 (by decide) (by decide) H1 _ st1 ?_
    intro v2 H2 n2' g2 st2
    have z2 := Int.emod_nonneg (lst.tail.headD 0) (by decide : (6 : Int) ≠ 0)
    have z3 := Int.emod_lt_of_pos (lst.tail.headD 0) (by decide : (0 : Int) < 6)
    generalize lst.tail.headD 0 % 6 = x6 at *
    obtain ⟨a2, ha2⟩ : ∃ a2 : Nat, (a1 : Int) + x6 = (a2 : Int) := ⟨((a1 : Int) + x6).toNat, by omega⟩
    have w2 : IntKind.i64.wrap ((a1 : Int) + x6) = (a2 : Int) := by rw [wrI _ (by omega) (by omega), ha2]
    simp only [ofArgs, run_seq, run_block, run_ops, run_skip, run_exit, run_ret, thenQ_normal, thenQ_exit, thenQ_ret, blockQ_normal, blockQ_exit, blockQ_ret, retQ_ret, retQ_normal, ops_nil, ops_none, got_some, ops_wT, ops_wTn, ops_wF, ops_wFn, ops_wU, dops_wT, dops_wTn, dops_wF, dops_wFn, dops_wU, run_condT, run_condF, alt2_int, altB_bool, altI_int, altBB_bool, v_min, v_max, v_not, v_neg, optEv_none, optEv_some, isSome'_none, isSome'_some, pExt0, pExt1, pExt2, Bool.false_and, Bool.true_and, Bool.not_true, Bool.not_false, cond_true, cond_false, dops_nil, dops_none, xval_call, v_mov, v_bin, v_len, v_ext, v_idxA, v_ld, v_st, v_app, v_appN, v_cvs, v_bs1, pBs1, v_slc, v_conv, v_fld, v_fldA, v_new, v_box, v_mks, v_copy, v_isnil, v_nilck, v_pick, ev, evs_nil, evs_cons, fr_get_cons, fr_put_nil, fr_put_cons, fr_put_some, fr_put_none, fr_keep_nil, fr_keep_cons, fr_has_nil, fr_has_cons, Option.bind_some, Option.map_some, xbin, ibin, xresult_eq, xress_nil, xress_tmp, resV, ex_some, if_true, if_false, ite_true, ite_false, reduceIte, reduceCtorEq, Nat.reduceEqDiff, Nat.reduceLT, Nat.reduceLeDiff, Int.reduceLT, Int.reduceLE, Nat.zero_add, Nat.reduceAdd, Bool.false_eq_true, decide_eq_true_eq, decide_eq_false_iff_not, true_implies, false_implies, and_true, true_and, w2]
    refine next_ok n0 B11 v2 lst.tail.tail 40 (by decide) (by decide) H2 _ st2 ?_
    intro v3 H3 n3' g3 st3'
    have z4 := Int.emod_nonneg (lst.tail.tail.headD 0) (by decide : (40 : Int) ≠ 0)
    have z5 := Int.emod_lt_of_pos (lst.tail.tail.headD 0) (by decide : (0 : Int) < 40)
    generalize lst.tail.tail.headD 0 % 40 = x40 at *
    obtain ⟨b, hb⟩ : ∃ b : Nat, x40 = (b : Int) := ⟨x40.toNat, by omega⟩
    subst hb
    have st : pSt 3 (.pointer (some ⟨H3.n, 0, none⟩)) (.agg #[.int .i64 (a1 : Int), .int .i64 (a2 : Int), .int .i64 (b : Int)]) (H3.push ⟨[.int .i64 0, .int .i64 0, .int .i64 0], 1, false, false⟩) = some (undef, b3 H3 (a1, a2, b)) := b3_st H3 (a1, a2, b)
    have gg : ∀ d, d ≠ B11 → H3.get d = H.get d := fun d hd => (g3 d hd).trans ((g2 d hd).trans (g1 d hd))
    have nn : H3.n = H.n := n3'.trans (n2'.trans n1')
    have le := hv.le
    -- H4: with the span's box
    have x4 := b3_ext H3 (a1, a2, b)
    have hn4 := b3_n H3 (a1, a2, b)
    have hB12 : (b3 H3 (a1, a2, b)).get H3.n = some ⟨[.int .i64 (a1 : Int), .int .i64 (a2 : Int), .int .i64 (b : Int)], 1, false, false⟩ := b3_get H3 (a1, a2, b)
    have hbase : Ints (b3 H3 (a1, a2, b)) vb t := Sl.same hv.base (by omega) fun d hd => by
      obtain ⟨d1, d2, d3⟩ := hvb d hd
      exact (x4.2 d (by omega)).trans (gg d d3)
    have hbox : (b3 H3 (a1, a2, b)).get B8 = some ⟨[vb, spv], 1, false, false⟩ := (x4.2 B8 (by omega)).trans ((gg B8 hne).trans hv.box)
    have hown : Own n1 3 (b3 H3 (a1, a2, b)) spv sp.length (spc sp) := Own.same hv.own (by omega) fun d hd => by
      have h1 : n1 ≤ d := by obtain ⟨o, l, c, e⟩ := hd; exact (hv.own.2 d o l c e).1
      have h2 : d < H.n := hv.own.1.lt hd
      exact (x4.2 d (by omega)).trans (gg d (by omega))
    have hst4 : Strm n0 (b3 H3 (a1, a2, b)) B11 v3 lst.tail.tail.tail := ⟨st3'.nb, by omega, (x4.2 B11 (by omega)).trans st3'.box, Sl.ext x4 st3'.ints, st3'.out⟩
    simp only [ofArgs, run_seq, run_block, run_ops, run_skip, run_exit, run_ret, thenQ_normal, thenQ_exit, thenQ_ret, blockQ_normal, blockQ_exit, blockQ_ret, retQ_ret, retQ_normal, ops_nil, ops_none, got_some, ops_wT, ops_wTn, ops_wF, ops_wFn, ops_wU, dops_wT, dops_wTn, dops_wF, dops_wFn, dops_wU, run_condT, run_condF, alt2_int, altB_bool, altI_int, altBB_bool, v_min, v_max, v_not, v_neg, optEv_none, optEv_some, isSome'_none, isSome'_some, pExt0, pExt1, pExt2, Bool.false_and, Bool.true_and, Bool.not_true, Bool.not_false, cond_true, cond_false, dops_nil, dops_none, xval_call, v_mov, v_bin, v_len, v_ext, v_idxA, v_ld, v_st, v_app, v_appN, v_cvs, v_bs1, pBs1, v_slc, v_conv, v_fld, v_fldA, v_new, v_box, v_mks, v_copy, v_isnil, v_nilck, v_pick, ev, evs_nil, evs_cons, fr_get_cons, fr_put_nil, fr_put_cons, fr_put_some, fr_put_none, fr_keep_nil, fr_keep_cons, fr_has_nil, fr_has_cons, Option.bind_some, Option.map_some, xbin, ibin, xresult_eq, xress_nil, xress_tmp, resV, ex_some, if_true, if_false, ite_true, ite_false, reduceIte, reduceCtorEq, Nat.reduceEqDiff, Nat.reduceLT, Nat.reduceLeDiff, Int.reduceLT, Int.reduceLE, Nat.zero_add, Nat.reduceAdd, Bool.false_eq_true, decide_eq_true_eq, decide_eq_false_iff_not, true_implies, false_implies, and_true, true_and, v_b3, altb3_int, st]
    generalize b3 H3 (a1, a2, b) = H4 at *
    have lb1 := ld3_1 hB12
    have hlen := ints_len hbase
    by_cases c : (a2 : Int) > (t.length : Int)
    · simp only [ofArgs, run_seq, run_block, run_ops, run_skip, run_exit, run_ret, thenQ_normal, thenQ_exit, thenQ_ret, blockQ_normal, blockQ_exit, blockQ_ret, retQ_ret, retQ_normal, ops_nil, ops_none, got_some, ops_wT, ops_wTn, ops_wF, ops_wFn, ops_wU, dops_wT, dops_wTn, dops_wF, dops_wFn, dops_wU, run_condT, run_condF, alt2_int, altB_bool, altI_int, altBB_bool, v_min, v_max, v_not, v_neg, optEv_none, optEv_some, isSome'_none, isSome'_some, pExt0, pExt1, pExt2, Bool.false_and, Bool.true_and, Bool.not_true, Bool.not_false, cond_true, cond_false, dops_nil, dops_none, xval_call, v_mov, v_bin, v_len, v_ext, v_idxA, v_ld, v_st, v_app, v_appN, v_cvs, v_bs1, pBs1, v_slc, v_conv, v_fld, v_fldA, v_new, v_box, v_mks, v_copy, v_isnil, v_nilck, v_pick, ev, evs_nil, evs_cons, fr_get_cons, fr_put_nil, fr_put_cons, fr_put_some, fr_put_none, fr_keep_nil, fr_keep_cons, fr_has_nil, fr_has_cons, Option.bind_some, Option.map_some, xbin, ibin, xresult_eq, xress_nil, xress_tmp, resV, ex_some, if_true, if_false, ite_true, ite_false, reduceIte, reduceCtorEq, Nat.reduceEqDiff, Nat.reduceLT, Nat.reduceLeDiff, Int.reduceLT, Int.reduceLE, Nat.zero_add, Nat.reduceAdd, Bool.false_eq_true, decide_eq_true_eq, decide_eq_false_iff_not, true_implies, false_implies, and_true, true_and, fld3_1, lb1, hlen, c, decide_true]
      exact hq2 H4 spv sp a most H3.n i ⟨hbox, hbase, hown, by omega, hv.ok, hv.asc, hv.by1, hv.m0, hv.m1, hv.len⟩
    · have lb := ld3 hB12
      have lb2 := ld3_2 hB12
      have l8 := ld2_1' hbox
      have ps : pS3 (.agg #[.int .i64 (a1 : Int), .int .i64 (a2 : Int), .int .i64 (b : Int)]) H4 = some (.slice (some ⟨H4.n, 0, none⟩) 1 1, H4.push ⟨[.int .i64 (a1 : Int), .int .i64 (a2 : Int), .int .i64 (b : Int)], 3, false, false⟩) := rfl
      have w9 := wrI (i + 1) (by omega) (by omega)
      simp only [ofArgs, run_seq, run_block, run_ops, run_skip, run_exit, run_ret, thenQ_normal, thenQ_exit, thenQ_ret, blockQ_normal, blockQ_exit, blockQ_ret, retQ_ret, retQ_normal, ops_nil, ops_none, got_some, ops_wT, ops_wTn, ops_wF, ops_wFn, ops_wU, dops_wT, dops_wTn, dops_wF, dops_wFn, dops_wU, run_condT, run_condF, alt2_int, altB_bool, altI_int, altBB_bool, v_min, v_max, v_not, v_neg, optEv_none, optEv_some, isSome'_none, isSome'_some, pExt0, pExt1, pExt2, Bool.false_and, Bool.true_and, Bool.not_true, Bool.not_false, cond_true, cond_false, dops_nil, dops_none, xval_call, v_mov, v_bin, v_len, v_ext, v_idxA, v_ld, v_st, v_app, v_appN, v_cvs, v_bs1, pBs1, v_slc, v_conv, v_fld, v_fldA, v_new, v_box, v_mks, v_copy, v_isnil, v_nilck, v_pick, ev, evs_nil, evs_cons, fr_get_cons, fr_put_nil, fr_put_cons, fr_put_some, fr_put_none, fr_keep_nil, fr_keep_cons, fr_has_nil, fr_has_cons, Option.bind_some, Option.map_some, xbin, ibin, xresult_eq, xress_nil, xress_tmp, resV, ex_some, if_true, if_false, ite_true, ite_false, reduceIte, reduceCtorEq, Nat.reduceEqDiff, Nat.reduceLT, Nat.reduceLeDiff, Int.reduceLT, Int.reduceLE, Nat.zero_add, Nat.reduceAdd, Bool.false_eq_true, decide_eq_true_eq, decide_eq_false_iff_not, true_implies, false_implies, and_true, true_and, fld3_1, lb1, hlen, c, decide_false]
      refine run_dopsS _ _ _ _ _ ?_
      simp only [ofArgs, run_seq, run_block, run_ops, run_skip, run_exit, run_ret, thenQ_normal, thenQ_exit, thenQ_ret, blockQ_normal, blockQ_exit, blockQ_ret, retQ_ret, retQ_normal, ops_nil, ops_none, got_some, ops_wT, ops_wTn, ops_wF, ops_wFn, ops_wU, dops_wT, dops_wTn, dops_wF, dops_wFn, dops_wU, run_condT, run_condF, alt2_int, altB_bool, altI_int, altBB_bool, v_min, v_max, v_not, v_neg, optEv_none, optEv_some, isSome'_none, isSome'_some, pExt0, pExt1, pExt2, Bool.false_and, Bool.true_and, Bool.not_true, Bool.not_false, cond_true, cond_false, dops_nil, dops_none, xval_call, v_mov, v_bin, v_len, v_ext, v_idxA, v_ld, v_st, v_app, v_appN, v_cvs, v_bs1, pBs1, v_slc, v_conv, v_fld, v_fldA, v_new, v_box, v_mks, v_copy, v_isnil, v_nilck, v_pick, ev, evs_nil, evs_cons, fr_get_cons, fr_put_nil, fr_put_cons, fr_put_some, fr_put_none, fr_keep_nil, fr_keep_cons, fr_has_nil, fr_has_cons, Option.bind_some, Option.map_some, xbin, ibin, xresult_eq, xress_nil, xress_tmp, resV, ex_some, if_true, if_false, ite_true, ite_false, reduceIte, reduceCtorEq, Nat.reduceEqDiff, Nat.reduceLT, Nat.reduceLeDiff, Int.reduceLT, Int.reduceLE, Nat.zero_add, Nat.reduceAdd, Bool.false_eq_true, decide_eq_true_eq, decide_eq_false_iff_not, true_implies, false_implies, and_true, true_and, dr_nil, dr_cons, hs0, hs1, hs2, hs3, addC_nil, addC_cons, stabAll_nil, stabAll_cons, stab1_nil, stab1_cons, hat_cons, xval_wT, xval_wTn, xval_wF, xval_wFn, veq_int, veq_bool, veq_ptr, veq_sl, v_bs31, fld3_1, fld3_2, l8, lb, ps]
      have x5 := hext_push H4 ⟨[.int .i64 (a1 : Int), .int .i64 (a2 : Int), .int .i64 (b : Int)], 3, false, false⟩
      have hn5 : (H4.push ⟨[.int .i64 (a1 : Int), .int .i64 (a2 : Int), .int .i64 (b : Int)], 3, false, false⟩).n = H4.n + 1 := rfl
      have hps := Sl.pushed H4 [.int .i64 (a1 : Int), .int .i64 (a2 : Int), .int .i64 (b : Int)] 3 1 false false rfl
      refine xapp_own (Own.ext x5 hown) (by omega) hps rfl (by decide) (by decide) (by omega) ?_
      intro v5 H6 o6 s6
      have notv : ∀ d, d < n1 → ¬ inB spv d := fun d hd ⟨o, l, cc, e⟩ => by have := (hown.2 d o l cc e).1; omega
      have b12v : ¬ inB spv H3.n := fun hd => by have := hv.own.1.lt hd; omega
      have g6 : ∀ d, d < H4.n → ¬ inB spv d → H6.get d = H4.get d := fun d h1 h2 => (s6.get d (by omega) h2).trans (x5.2 d h1)
      have hbox6 := (g6 B8 (by omega) (notv B8 hB8)).trans hbox
      have hB12' := (g6 H3.n (by omega) b12v).trans hB12
      have l86 := ld2_1' hbox6
      have lb61 := ld3_1 hB12'
      have lb62 := ld3_2 hB12'
      obtain ⟨o1, o2⟩ := sl_slice o6.1
      have st8 := st2_1' hbox6 o1 o2
      have hB12'' : (H6.set B8 ⟨[vb, v5], 1, false, false⟩).get H3.n = some ⟨[.int .i64 (a1 : Int), .int .i64 (a2 : Int), .int .i64 (b : Int)], 1, false, false⟩ := by rw [AH.get_set, if_neg (by omega)]; exact hB12'
      have lb71 := ld3_1 hB12''
      have lb72 := ld3_2 hB12''
      have vq := hown.1.veq
      have hB125 := (x5.2 H3.n (by omega)).trans hB12
      have lb51 := ld3_1 hB125
      have l85 := ld2_1' ((x5.2 B8 (by omega)).trans hbox)
      have lb52 := ld3_2 hB125
      simp only [ofArgs, run_seq, run_block, run_ops, run_skip, run_exit, run_ret, thenQ_normal, thenQ_exit, thenQ_ret, blockQ_normal, blockQ_exit, blockQ_ret, retQ_ret, retQ_normal, ops_nil, ops_none, got_some, ops_wT, ops_wTn, ops_wF, ops_wFn, ops_wU, dops_wT, dops_wTn, dops_wF, dops_wFn, dops_wU, run_condT, run_condF, alt2_int, altB_bool, altI_int, altBB_bool, v_min, v_max, v_not, v_neg, optEv_none, optEv_some, isSome'_none, isSome'_some, pExt0, pExt1, pExt2, Bool.false_and, Bool.true_and, Bool.not_true, Bool.not_false, cond_true, cond_false, dops_nil, dops_none, xval_call, v_mov, v_bin, v_len, v_ext, v_idxA, v_ld, v_st, v_app, v_appN, v_cvs, v_bs1, pBs1, v_slc, v_conv, v_fld, v_fldA, v_new, v_box, v_mks, v_copy, v_isnil, v_nilck, v_pick, ev, evs_nil, evs_cons, fr_get_cons, fr_put_nil, fr_put_cons, fr_put_some, fr_put_none, fr_keep_nil, fr_keep_cons, fr_has_nil, fr_has_cons, Option.bind_some, Option.map_some, xbin, ibin, xresult_eq, xress_nil, xress_tmp, resV, ex_some, if_true, if_false, ite_true, ite_false, reduceIte, reduceCtorEq, Nat.reduceEqDiff, Nat.reduceLT, Nat.reduceLeDiff, Int.reduceLT, Int.reduceLE, Nat.zero_add, Nat.reduceAdd, Bool.false_eq_true, decide_eq_true_eq, decide_eq_false_iff_not, true_implies, false_implies, and_true, true_and, dr_nil, dr_cons, hs0, hs1, hs2, hs3, addC_nil, addC_cons, stabAll_nil, stabAll_cons, stab1_nil, stab1_cons, hat_cons, xval_wT, xval_wTn, xval_wF, xval_wFn, veq_int, veq_bool, veq_ptr, veq_sl, fld3_1, fld3_2, l86, lb61, lb62, st8, lb1, lb2, lb71, lb72, lb51, lb52, l85, vq, w9, l8]
      subst hL
      refine ih (sp ++ [(a1, a2, b)]) v5 a2 (if most < (b : Int) then (b : Int) else most) lst.tail.tail.tail v3 _ (i + 1) N Q ?_ ?_ (by omega) (by omega) (by omega) hN (by simp; omega) hq1 hq2
      · refine ⟨hst4.nb, by have := s6.n; show B11 < H6.n; omega, ?_, ?_, hst4.out⟩
        · rw [AH.get_set, if_neg (Ne.symm hne)]
          exact (g6 B11 (by omega) (notv B11 hB11)).trans hst4.box
        · refine Sl.same hst4.ints (by have := s6.n; show H4.n ≤ H6.n; omega) fun d hd => ?_
          have d1 := hst4.out d hd
          have d2 := hst4.nb
          have d3 := Sl.lt hst4.ints hd
          rw [AH.get_set, if_neg (by omega)]
          exact g6 d d3 (notv d (by omega))
      · refine ⟨by rw [AH.get_set, if_pos rfl], ?_, ?_, by have := s6.n; show n1 ≤ H6.n; omega, ?_, ?_, ?_, ?_, ?_, by simp; omega⟩
        · refine Sl.same hbase (by have := s6.n; show H4.n ≤ H6.n; omega) fun d hd => ?_
          obtain ⟨d1, d2, d3⟩ := hvb d hd
          rw [AH.get_set, if_neg d2]
          exact g6 d (by omega) (notv d d1)
        · have el : (sp ++ [(a1, a2, b)]).length = sp.length + 1 := by simp
          rw [el, spc_app]
          refine Own.same (n := sp.length + 1) (cs := spc sp ++ spc [(a1, a2, b)]) o6 (by show H6.n ≤ H6.n; omega) fun d hd => ?_
          have h1 : n1 ≤ d := by obtain ⟨o, l, cc, e⟩ := hd; exact (o6.2 d o l cc e).1
          rw [AH.get_set, if_neg (by omega)]
        · intro s hs
          rcases List.mem_append.1 hs with h | h
          · exact hv.ok s h
          · simp only [List.mem_singleton] at h
            subst h
            exact ⟨by show a1 ≤ a2; omega, by show a2 ≤ t.length; omega, by show b ≤ 100; omega⟩
        · intro r hr
          rw [List.append_assoc]
          exact hv.asc _ ⟨by show a ≤ a1; omega, hr⟩
        · intro s hs
          rcases List.mem_append.1 hs with h | h
          · have := hv.by1 s h; split <;> omega
          · simp only [List.mem_singleton] at h
            subst h
            show (b : Int) ≤ _
            split <;> omega
        · have := hv.m0; split <;> omega
        · have := hv.m1; split <;> omega
end Go.Proofs.Ytkhjmmidaihbhaa.D
