/- What functions that the law reaches compute, on a heap of the run's own: the conditions stand in each theorem. -/
import Derived.Test.YtbkmkelohlmblaaFvD
set_option linter.unusedSimpArgs false
set_option linter.unusedVariables false
namespace Go.Proofs.Ytbkmkelohlmblaa.D
open Go Go.Det

theorem two5 (H : AH) (u w : W5) : In5 ((H.push ⟨u.cells, 1, false, false⟩).push ⟨w.cells, 1, false, false⟩) H.n u ∧ In5 ((H.push ⟨u.cells, 1, false, false⟩).push ⟨w.cells, 1, false, false⟩) (H.n + 1) w ∧ ((H.push ⟨u.cells, 1, false, false⟩).push ⟨w.cells, 1, false, false⟩).n = H.n + 1 + 1 ∧ HExt H ((H.push ⟨u.cells, 1, false, false⟩).push ⟨w.cells, 1, false, false⟩) := by
  have x1 := hext_push H ⟨u.cells, 1, false, false⟩
  have x2 := hext_push (H.push ⟨u.cells, 1, false, false⟩) ⟨w.cells, 1, false, false⟩
  exact ⟨(in5_push H u).ext x2 (by simp), in5_push _ w, rfl, x1.trans x2⟩
theorem three5 (H : AH) (u w : W5) : In5 (((H.push ⟨u.cells, 1, false, false⟩).push ⟨w.cells, 1, false, false⟩).push ⟨[.int .u8 0, .int .u8 0, .int .u8 0, .int .u8 0, .int .u8 0], 1, false, false⟩) H.n u ∧ In5 (((H.push ⟨u.cells, 1, false, false⟩).push ⟨w.cells, 1, false, false⟩).push ⟨[.int .u8 0, .int .u8 0, .int .u8 0, .int .u8 0, .int .u8 0], 1, false, false⟩) (H.n + 1) w ∧ In5 (((H.push ⟨u.cells, 1, false, false⟩).push ⟨w.cells, 1, false, false⟩).push ⟨[.int .u8 0, .int .u8 0, .int .u8 0, .int .u8 0, .int .u8 0], 1, false, false⟩) (H.n + 1 + 1) Z5 ∧ (((H.push ⟨u.cells, 1, false, false⟩).push ⟨w.cells, 1, false, false⟩).push ⟨[.int .u8 0, .int .u8 0, .int .u8 0, .int .u8 0, .int .u8 0], 1, false, false⟩).n = H.n + 1 + 1 + 1 ∧ HExt H (((H.push ⟨u.cells, 1, false, false⟩).push ⟨w.cells, 1, false, false⟩).push ⟨[.int .u8 0, .int .u8 0, .int .u8 0, .int .u8 0, .int .u8 0], 1, false, false⟩) := by
  obtain ⟨a, b, c, d⟩ := two5 H u w
  have x := hext_push ((H.push ⟨u.cells, 1, false, false⟩).push ⟨w.cells, 1, false, false⟩) ⟨[.int .u8 0, .int .u8 0, .int .u8 0, .int .u8 0, .int .u8 0], 1, false, false⟩
  exact ⟨a.ext x (by rw [c]; omega), b.ext x (by rw [c]; omega), in5_push _ Z5, rfl, d.trans x⟩
theorem set_keep (H H' : AH) (B : Nat) (w : W5) (x : HExt H H') (hb : H.n ≤ B) : HExt H (H'.set B ⟨w.cells, 1, false, false⟩) := ⟨x.1, fun b h => by rw [AH.get_set, if_neg (by omega)]; exact x.2 b h⟩
theorem cells_Z5 : Z5.cells = [.int .u8 0, .int .u8 0, .int .u8 0, .int .u8 0, .int .u8 0] := rfl

theorem both_ok (f g : F5) (hf : Ok5 f) (hg : Ok5 g) (H : AH) (Q : Value → AH → Prop) (hq : ∀ H', HExt H H' → Q (.int .i64 0) H') : Got (xc Try.prog tab 12 [A5 (enc f), A5 (enc g)] H) Q := by
  refine got_call (res := [.tmp 4]) rfl ?_
  obtain ⟨i2, i3, hn, x0⟩ := two5 H (enc f) (enc g)
  have l2 := ld5 i2
  simp only [ofArgs, run_seq, run_block, run_ops, run_skip, run_exit, run_ret, thenQ_normal, thenQ_exit, thenQ_ret, blockQ_normal, blockQ_exit, blockQ_ret, retQ_ret, retQ_normal, ops_nil, ops_none, got_some, ops_wT, ops_wTn, ops_wF, ops_wFn, ops_wU, dops_wT, dops_wTn, dops_wF, dops_wFn, dops_wU, run_condT, run_condF, alt2_int, altB_bool, altI_int, altBB_bool, v_min, v_max, v_not, v_neg, optEv_none, optEv_some, isSome'_none, isSome'_some, pExt0, pExt1, pExt2, Bool.false_and, Bool.true_and, Bool.not_true, Bool.not_false, cond_true, cond_false, dops_nil, dops_none, xval_call, v_mov, v_bin, v_len, v_ext, v_idxA, v_ld, v_st, v_app, v_appN, v_cvs, v_bs1, pBs1, v_slc, v_conv, v_fld, v_fldA, v_new, v_box, v_mks, v_copy, v_isnil, v_nilck, v_pick, ev, evs_nil, evs_cons, fr_get_cons, fr_put_nil, fr_put_cons, fr_put_some, fr_put_none, fr_keep_nil, fr_keep_cons, fr_has_nil, fr_has_cons, Option.bind_some, Option.map_some, xbin, ibin, xresult_eq, xress_nil, xress_tmp, resV, ex_some, if_true, if_false, ite_true, ite_false, reduceIte, reduceCtorEq, Nat.reduceEqDiff, Nat.reduceLT, Nat.reduceLeDiff, Int.reduceLT, Int.reduceLE, Nat.zero_add, Nat.reduceAdd, Bool.false_eq_true, decide_eq_true_eq, decide_eq_false_iff_not, true_implies, false_implies, and_true, true_and, cells_A5, AH.push_n, l2]
  generalize (H.push ⟨(enc f).cells, 1, false, false⟩).push ⟨(enc g).cells, 1, false, false⟩ = H0 at i2 i3 hn x0
  refine check_ok f hf H0 _ ?_
  intro H1 x1
  have l3 := ld5 (i3.ext x1 (by omega))
  have c1 : ((0 : Int) != 0) = false := rfl
  simp only [ofArgs, run_seq, run_block, run_ops, run_skip, run_exit, run_ret, thenQ_normal, thenQ_exit, thenQ_ret, blockQ_normal, blockQ_exit, blockQ_ret, retQ_ret, retQ_normal, ops_nil, ops_none, got_some, ops_wT, ops_wTn, ops_wF, ops_wFn, ops_wU, dops_wT, dops_wTn, dops_wF, dops_wFn, dops_wU, run_condT, run_condF, alt2_int, altB_bool, altI_int, altBB_bool, v_min, v_max, v_not, v_neg, optEv_none, optEv_some, isSome'_none, isSome'_some, pExt0, pExt1, pExt2, Bool.false_and, Bool.true_and, Bool.not_true, Bool.not_false, cond_true, cond_false, dops_nil, dops_none, xval_call, v_mov, v_bin, v_len, v_ext, v_idxA, v_ld, v_st, v_app, v_appN, v_cvs, v_bs1, pBs1, v_slc, v_conv, v_fld, v_fldA, v_new, v_box, v_mks, v_copy, v_isnil, v_nilck, v_pick, ev, evs_nil, evs_cons, fr_get_cons, fr_put_nil, fr_put_cons, fr_put_some, fr_put_none, fr_keep_nil, fr_keep_cons, fr_has_nil, fr_has_cons, Option.bind_some, Option.map_some, xbin, ibin, xresult_eq, xress_nil, xress_tmp, resV, ex_some, if_true, if_false, ite_true, ite_false, reduceIte, reduceCtorEq, Nat.reduceEqDiff, Nat.reduceLT, Nat.reduceLeDiff, Int.reduceLT, Int.reduceLE, Nat.zero_add, Nat.reduceAdd, Bool.false_eq_true, decide_eq_true_eq, decide_eq_false_iff_not, true_implies, false_implies, and_true, true_and, c1, l3]
  refine check_ok g hg H1 _ ?_
  intro H2 x2
  exact hq H2 (x0.trans (x1.trans x2))

def neg5 : F5 → F5
  | none => none
  | some (s, m, e) => some (!s, m, e)
theorem neg5_ok (f : F5) (h : Ok5 f) : Ok5 (neg5 f) := by cases f <;> exact h
theorem xor128 (c : Nat) (h : c < 256) : IntKind.u8.wrap ((BitVec.ofInt IntKind.u8.bits (c : Int) ^^^ BitVec.ofInt IntKind.u8.bits 128).toNat : Int) = ((if c < 128 then c + 128 else c - 128 : Nat) : Int) := by
  have := b_xor c 128 h (by omega)
  have z : ((128 : Nat) : Int) = 128 := rfl
  rw [z] at this
  rw [this]
  have key : ∀ c < 256, c ^^^ 128 = if c < 128 then c + 128 else c - 128 := by decide +kernel
  rw [key c h]
theorem neg_enc (s : Bool) (m e : Nat) (h1 : 2147483648 ≤ m) (h2 : m < 4294967296) : enc (some (!s, m, e)) = { enc (some (s, m, e)) with a := ((if wd s m / 16777216 < 128 then wd s m / 16777216 + 128 else wd s m / 16777216 - 128 : Nat) : Int) } := by
  obtain ⟨r, rfl⟩ : ∃ r, m = 2147483648 + r := ⟨m - 2147483648, by omega⟩
  have t : wd true (2147483648 + r) = 2147483648 + r := by unfold wd; simp; omega
  have f : wd false (2147483648 + r) = r := by unfold wd; simp
  cases s
  · simp only [enc, Bool.not_false, t, f, W5.mk.injEq, true_and]
    refine ⟨?_, ?_, ?_, ?_⟩
    · split <;> omega
    all_goals omega
  · simp only [enc, Bool.not_true, t, f, W5.mk.injEq, true_and]
    refine ⟨?_, ?_, ?_, ?_⟩
    · split <;> omega
    all_goals omega
theorem neg_ok (f : F5) (hf : Ok5 f) (H : AH) (Q : Value → AH → Prop) (hq : ∀ H', HExt H H' → Q (A5 (enc (neg5 f))) H') : Got (xc Try.prog tab 17 [A5 (enc f)] H) Q := by
  refine got_call (res := [.cell 2 (some 5)]) rfl ?_
  obtain ⟨i1, i2, hn, x0⟩ := two5 H (enc f) Z5
  rw [cells_Z5] at i1 i2 hn x0
  simp only [ofArgs, run_seq, run_block, run_ops, run_skip, run_exit, run_ret, thenQ_normal, thenQ_exit, thenQ_ret, blockQ_normal, blockQ_exit, blockQ_ret, retQ_ret, retQ_normal, ops_nil, ops_none, got_some, ops_wT, ops_wTn, ops_wF, ops_wFn, ops_wU, dops_wT, dops_wTn, dops_wF, dops_wFn, dops_wU, run_condT, run_condF, alt2_int, altB_bool, altI_int, altBB_bool, v_min, v_max, v_not, v_neg, optEv_none, optEv_some, isSome'_none, isSome'_some, pExt0, pExt1, pExt2, Bool.false_and, Bool.true_and, Bool.not_true, Bool.not_false, cond_true, cond_false, dops_nil, dops_none, xval_call, v_mov, v_bin, v_len, v_ext, v_idxA, v_ld, v_st, v_app, v_appN, v_cvs, v_bs1, pBs1, v_slc, v_conv, v_fld, v_fldA, v_new, v_box, v_mks, v_copy, v_isnil, v_nilck, v_pick, ev, evs_nil, evs_cons, fr_get_cons, fr_put_nil, fr_put_cons, fr_put_some, fr_put_none, fr_keep_nil, fr_keep_cons, fr_has_nil, fr_has_cons, Option.bind_some, Option.map_some, xbin, ibin, xresult_eq, xress_nil, xress_tmp, resV, ex_some, if_true, if_false, ite_true, ite_false, reduceIte, reduceCtorEq, Nat.reduceEqDiff, Nat.reduceLT, Nat.reduceLeDiff, Int.reduceLT, Int.reduceLE, Nat.zero_add, Nat.reduceAdd, Bool.false_eq_true, decide_eq_true_eq, decide_eq_false_iff_not, true_implies, false_implies, and_true, true_and, cells_A5, AH.push_n]
  generalize (H.push ⟨(enc f).cells, 1, false, false⟩).push ⟨[.int .u8 0, .int .u8 0, .int .u8 0, .int .u8 0, .int .u8 0], 1, false, false⟩ = H0 at i1 i2 hn x0
  have e0 := ld5_0 i1
  have e1 := ld5_1 i1
  have e5 := ld5 i1
  cases f with
  | none =>
    have ez : (enc none).e = 0 := rfl
    rw [ez] at e0
    have c1 : ((0 : Int) != 0) = false := rfl
    have s2 := st5 (enc none) i2
    have hcell := fun (fr : Fr) (xs : List XRes) (h : fr.get 2 = some (.pointer (some ⟨H.n + 1, 0, none⟩))) => xcell5 fr (H0.set (H.n + 1) ⟨(enc none).cells, 1, false, false⟩) 2 (H.n + 1) (enc none) xs h (in5_set _ _ _)
    simp only [ofArgs, run_seq, run_block, run_ops, run_skip, run_exit, run_ret, thenQ_normal, thenQ_exit, thenQ_ret, blockQ_normal, blockQ_exit, blockQ_ret, retQ_ret, retQ_normal, ops_nil, ops_none, got_some, ops_wT, ops_wTn, ops_wF, ops_wFn, ops_wU, dops_wT, dops_wTn, dops_wF, dops_wFn, dops_wU, run_condT, run_condF, alt2_int, altB_bool, altI_int, altBB_bool, v_min, v_max, v_not, v_neg, optEv_none, optEv_some, isSome'_none, isSome'_some, pExt0, pExt1, pExt2, Bool.false_and, Bool.true_and, Bool.not_true, Bool.not_false, cond_true, cond_false, dops_nil, dops_none, xval_call, v_mov, v_bin, v_len, v_ext, v_idxA, v_ld, v_st, v_app, v_appN, v_cvs, v_bs1, pBs1, v_slc, v_conv, v_fld, v_fldA, v_new, v_box, v_mks, v_copy, v_isnil, v_nilck, v_pick, ev, evs_nil, evs_cons, fr_get_cons, fr_put_nil, fr_put_cons, fr_put_some, fr_put_none, fr_keep_nil, fr_keep_cons, fr_has_nil, fr_has_cons, Option.bind_some, Option.map_some, xbin, ibin, xresult_eq, xress_nil, xress_tmp, resV, ex_some, if_true, if_false, ite_true, ite_false, reduceIte, reduceCtorEq, Nat.reduceEqDiff, Nat.reduceLT, Nat.reduceLeDiff, Int.reduceLT, Int.reduceLE, Nat.zero_add, Nat.reduceAdd, Bool.false_eq_true, decide_eq_true_eq, decide_eq_false_iff_not, true_implies, false_implies, and_true, true_and, pAA_ptr, aa0, e0, c1, e5, s2, hcell]
    exact hq _ (set_keep H H0 _ _ x0 (by omega))
  | some p =>
    obtain ⟨s, m, e⟩ := p
    obtain ⟨h1, h2, h3, h4⟩ := hf
    have ea : (enc (some (s, m, e))).a = ((wd s m / 16777216 : Nat) : Int) := rfl
    rw [enc_e0] at e0
    rw [ea] at e1
    have hw := wd_lt s m h1 h2
    have xr := xor128 (wd s m / 16777216) (by omega)
    have c1 : ((e : Int) != 0) = true := by simp; omega
    have s1 := st5_1 ((if wd s m / 16777216 < 128 then wd s m / 16777216 + 128 else wd s m / 16777216 - 128 : Nat) : Int) i1
    rw [← neg_enc s m e h1 h2] at s1
    have i1' := in5_set H0 H.n (enc (some (!s, m, e)))
    have i2' : In5 (H0.set H.n ⟨(enc (some (!s, m, e))).cells, 1, false, false⟩) (H.n + 1) Z5 := by unfold In5; rw [AH.get_set, if_neg (by omega)]; exact i2
    have x1 := set_keep H H0 H.n (enc (some (!s, m, e))) x0 (Nat.le_refl _)
    generalize (H0.set H.n ⟨(enc (some (!s, m, e))).cells, 1, false, false⟩) = H1 at s1 i1' i2' x1
    have e5' := ld5 i1'
    have s2 := st5 (enc (some (!s, m, e))) i2'
    have hcell := fun (fr : Fr) (xs : List XRes) (h : fr.get 2 = some (.pointer (some ⟨H.n + 1, 0, none⟩))) => xcell5 fr (H1.set (H.n + 1) ⟨(enc (some (!s, m, e))).cells, 1, false, false⟩) 2 (H.n + 1) _ xs h (in5_set _ _ _)
    simp only [ofArgs, run_seq, run_block, run_ops, run_skip, run_exit, run_ret, thenQ_normal, thenQ_exit, thenQ_ret, blockQ_normal, blockQ_exit, blockQ_ret, retQ_ret, retQ_normal, ops_nil, ops_none, got_some, ops_wT, ops_wTn, ops_wF, ops_wFn, ops_wU, dops_wT, dops_wTn, dops_wF, dops_wFn, dops_wU, run_condT, run_condF, alt2_int, altB_bool, altI_int, altBB_bool, v_min, v_max, v_not, v_neg, optEv_none, optEv_some, isSome'_none, isSome'_some, pExt0, pExt1, pExt2, Bool.false_and, Bool.true_and, Bool.not_true, Bool.not_false, cond_true, cond_false, dops_nil, dops_none, xval_call, v_mov, v_bin, v_len, v_ext, v_idxA, v_ld, v_st, v_app, v_appN, v_cvs, v_bs1, pBs1, v_slc, v_conv, v_fld, v_fldA, v_new, v_box, v_mks, v_copy, v_isnil, v_nilck, v_pick, ev, evs_nil, evs_cons, fr_get_cons, fr_put_nil, fr_put_cons, fr_put_some, fr_put_none, fr_keep_nil, fr_keep_cons, fr_has_nil, fr_has_cons, Option.bind_some, Option.map_some, xbin, ibin, xresult_eq, xress_nil, xress_tmp, resV, ex_some, if_true, if_false, ite_true, ite_false, reduceIte, reduceCtorEq, Nat.reduceEqDiff, Nat.reduceLT, Nat.reduceLeDiff, Int.reduceLT, Int.reduceLE, Nat.zero_add, Nat.reduceAdd, Bool.false_eq_true, decide_eq_true_eq, decide_eq_false_iff_not, true_implies, false_implies, and_true, true_and, pAA_ptr, aa0, aa1, e0, c1, e1, xr, s1, e5', s2, hcell]
    exact hq _ (set_keep H H1 _ _ x1 (by omega))

theorem fiveOf_ok (n : Int) (h1 : -9000000000000000000 ≤ n) (h2 : n ≤ 9000000000000000000) (H : AH) (Q : Value → AH → Prop) (hq : ∀ H', HExt H H' → Q (.tuple #[A5 (enc (pack (decide (n < 0)) n.natAbs 0 false).1), .int .i64 (pack (decide (n < 0)) n.natAbs 0 false).2]) H') : Got (xc Try.prog tab 10 [.int .i64 n] H) Q := by
  refine got_call (res := [.cell 2 (some 5), .tmp 3]) rfl ?_
  have i0 := in5_push H Z5
  rw [cells_Z5] at i0
  have x0 := hext_push H ⟨[.int .u8 0, .int .u8 0, .int .u8 0, .int .u8 0, .int .u8 0], 1, false, false⟩
  have hn : (H.push ⟨[.int .u8 0, .int .u8 0, .int .u8 0, .int .u8 0, .int .u8 0], 1, false, false⟩).n = H.n + 1 := rfl
  by_cases hn0 : n < 0
  · have w1 : IntKind.u64.wrap n = n + 18446744073709551616 := by rw [wrU64]; omega
    have w2 : IntKind.u64.wrap (-(n + 18446744073709551616)) = (n.natAbs : Int) := by rw [wrU64]; omega
    simp only [ofArgs, run_seq, run_block, run_ops, run_skip, run_exit, run_ret, thenQ_normal, thenQ_exit, thenQ_ret, blockQ_normal, blockQ_exit, blockQ_ret, retQ_ret, retQ_normal, ops_nil, ops_none, got_some, ops_wT, ops_wTn, ops_wF, ops_wFn, ops_wU, dops_wT, dops_wTn, dops_wF, dops_wFn, dops_wU, run_condT, run_condF, alt2_int, altB_bool, altI_int, altBB_bool, v_min, v_max, v_not, v_neg, optEv_none, optEv_some, isSome'_none, isSome'_some, pExt0, pExt1, pExt2, Bool.false_and, Bool.true_and, Bool.not_true, Bool.not_false, cond_true, cond_false, dops_nil, dops_none, xval_call, v_mov, v_bin, v_len, v_ext, v_idxA, v_ld, v_st, v_app, v_appN, v_cvs, v_bs1, pBs1, v_slc, v_conv, v_fld, v_fldA, v_new, v_box, v_mks, v_copy, v_isnil, v_nilck, v_pick, ev, evs_nil, evs_cons, fr_get_cons, fr_put_nil, fr_put_cons, fr_put_some, fr_put_none, fr_keep_nil, fr_keep_cons, fr_has_nil, fr_has_cons, Option.bind_some, Option.map_some, xbin, ibin, xresult_eq, xress_nil, xress_tmp, resV, ex_some, if_true, if_false, ite_true, ite_false, reduceIte, reduceCtorEq, Nat.reduceEqDiff, Nat.reduceLT, Nat.reduceLeDiff, Int.reduceLT, Int.reduceLE, Nat.zero_add, Nat.reduceAdd, Bool.false_eq_true, decide_eq_true_eq, decide_eq_false_iff_not, true_implies, false_implies, and_true, true_and, hn0, decide_true, pConv, w1, v_neg, w2]
    generalize H.push ⟨[.int .u8 0, .int .u8 0, .int .u8 0, .int .u8 0, .int .u8 0], 1, false, false⟩ = H0 at i0 x0 hn
    rw [decide_eq_true hn0] at hq
    refine pack_ok true n.natAbs (by omega) 0 (by omega) (by omega) false H0 _ ?_
    intro H1 x1
    generalize pack true n.natAbs 0 false = r at hq
    have i1 := i0.ext x1 (by omega)
    have s1 := st5 (enc r.1) i1
    have hcell := fun (fr : Fr) (xs : List XRes) (h : fr.get 2 = some (.pointer (some ⟨H.n, 0, none⟩))) => xcell5 fr (H1.set H.n ⟨(enc r.1).cells, 1, false, false⟩) 2 H.n _ xs h (in5_set _ _ _)
    simp only [ofArgs, run_seq, run_block, run_ops, run_skip, run_exit, run_ret, thenQ_normal, thenQ_exit, thenQ_ret, blockQ_normal, blockQ_exit, blockQ_ret, retQ_ret, retQ_normal, ops_nil, ops_none, got_some, ops_wT, ops_wTn, ops_wF, ops_wFn, ops_wU, dops_wT, dops_wTn, dops_wF, dops_wFn, dops_wU, run_condT, run_condF, alt2_int, altB_bool, altI_int, altBB_bool, v_min, v_max, v_not, v_neg, optEv_none, optEv_some, isSome'_none, isSome'_some, pExt0, pExt1, pExt2, Bool.false_and, Bool.true_and, Bool.not_true, Bool.not_false, cond_true, cond_false, dops_nil, dops_none, xval_call, v_mov, v_bin, v_len, v_ext, v_idxA, v_ld, v_st, v_app, v_appN, v_cvs, v_bs1, pBs1, v_slc, v_conv, v_fld, v_fldA, v_new, v_box, v_mks, v_copy, v_isnil, v_nilck, v_pick, ev, evs_nil, evs_cons, fr_get_cons, fr_put_nil, fr_put_cons, fr_put_some, fr_put_none, fr_keep_nil, fr_keep_cons, fr_has_nil, fr_has_cons, Option.bind_some, Option.map_some, xbin, ibin, xresult_eq, xress_nil, xress_tmp, resV, ex_some, if_true, if_false, ite_true, ite_false, reduceIte, reduceCtorEq, Nat.reduceEqDiff, Nat.reduceLT, Nat.reduceLeDiff, Int.reduceLT, Int.reduceLE, Nat.zero_add, Nat.reduceAdd, Bool.false_eq_true, decide_eq_true_eq, decide_eq_false_iff_not, true_implies, false_implies, and_true, true_and, s1, hcell]
    exact hq _ (set_keep H H1 _ _ (x0.trans x1) (Nat.le_refl _))
  · have w1 : IntKind.u64.wrap n = (n.natAbs : Int) := by rw [wrU64]; omega
    simp only [ofArgs, run_seq, run_block, run_ops, run_skip, run_exit, run_ret, thenQ_normal, thenQ_exit, thenQ_ret, blockQ_normal, blockQ_exit, blockQ_ret, retQ_ret, retQ_normal, ops_nil, ops_none, got_some, ops_wT, ops_wTn, ops_wF, ops_wFn, ops_wU, dops_wT, dops_wTn, dops_wF, dops_wFn, dops_wU, run_condT, run_condF, alt2_int, altB_bool, altI_int, altBB_bool, v_min, v_max, v_not, v_neg, optEv_none, optEv_some, isSome'_none, isSome'_some, pExt0, pExt1, pExt2, Bool.false_and, Bool.true_and, Bool.not_true, Bool.not_false, cond_true, cond_false, dops_nil, dops_none, xval_call, v_mov, v_bin, v_len, v_ext, v_idxA, v_ld, v_st, v_app, v_appN, v_cvs, v_bs1, pBs1, v_slc, v_conv, v_fld, v_fldA, v_new, v_box, v_mks, v_copy, v_isnil, v_nilck, v_pick, ev, evs_nil, evs_cons, fr_get_cons, fr_put_nil, fr_put_cons, fr_put_some, fr_put_none, fr_keep_nil, fr_keep_cons, fr_has_nil, fr_has_cons, Option.bind_some, Option.map_some, xbin, ibin, xresult_eq, xress_nil, xress_tmp, resV, ex_some, if_true, if_false, ite_true, ite_false, reduceIte, reduceCtorEq, Nat.reduceEqDiff, Nat.reduceLT, Nat.reduceLeDiff, Int.reduceLT, Int.reduceLE, Nat.zero_add, Nat.reduceAdd, Bool.false_eq_true, decide_eq_true_eq, decide_eq_false_iff_not, true_implies, false_implies, and_true, true_and, hn0, decide_false, pConv, w1]
    generalize H.push ⟨[.int .u8 0, .int .u8 0, .int .u8 0, .int .u8 0, .int .u8 0], 1, false, false⟩ = H0 at i0 x0 hn
    rw [decide_eq_false hn0] at hq
    refine pack_ok false n.natAbs (by omega) 0 (by omega) (by omega) false H0 _ ?_
    intro H1 x1
    generalize pack false n.natAbs 0 false = r at hq
    have i1 := i0.ext x1 (by omega)
    have s1 := st5 (enc r.1) i1
    have hcell := fun (fr : Fr) (xs : List XRes) (h : fr.get 2 = some (.pointer (some ⟨H.n, 0, none⟩))) => xcell5 fr (H1.set H.n ⟨(enc r.1).cells, 1, false, false⟩) 2 H.n _ xs h (in5_set _ _ _)
    simp only [ofArgs, run_seq, run_block, run_ops, run_skip, run_exit, run_ret, thenQ_normal, thenQ_exit, thenQ_ret, blockQ_normal, blockQ_exit, blockQ_ret, retQ_ret, retQ_normal, ops_nil, ops_none, got_some, ops_wT, ops_wTn, ops_wF, ops_wFn, ops_wU, dops_wT, dops_wTn, dops_wF, dops_wFn, dops_wU, run_condT, run_condF, alt2_int, altB_bool, altI_int, altBB_bool, v_min, v_max, v_not, v_neg, optEv_none, optEv_some, isSome'_none, isSome'_some, pExt0, pExt1, pExt2, Bool.false_and, Bool.true_and, Bool.not_true, Bool.not_false, cond_true, cond_false, dops_nil, dops_none, xval_call, v_mov, v_bin, v_len, v_ext, v_idxA, v_ld, v_st, v_app, v_appN, v_cvs, v_bs1, pBs1, v_slc, v_conv, v_fld, v_fldA, v_new, v_box, v_mks, v_copy, v_isnil, v_nilck, v_pick, ev, evs_nil, evs_cons, fr_get_cons, fr_put_nil, fr_put_cons, fr_put_some, fr_put_none, fr_keep_nil, fr_keep_cons, fr_has_nil, fr_has_cons, Option.bind_some, Option.map_some, xbin, ibin, xresult_eq, xress_nil, xress_tmp, resV, ex_some, if_true, if_false, ite_true, ite_false, reduceIte, reduceCtorEq, Nat.reduceEqDiff, Nat.reduceLT, Nat.reduceLeDiff, Int.reduceLT, Int.reduceLE, Nat.zero_add, Nat.reduceAdd, Bool.false_eq_true, decide_eq_true_eq, decide_eq_false_iff_not, true_implies, false_implies, and_true, true_and, s1, hcell]
    exact hq _ (set_keep H H1 _ _ (x0.trans x1) (Nat.le_refl _))

def sg (f : F5) : Bool := match f with | none => false | some (s, _, _) => s
def mt (f : F5) : Nat := match f with | none => 0 | some (_, m, _) => m
def xp (f : F5) : Int := match f with | none => 0 | some (_, _, e) => (e : Int) - 160
theorem prt_eq (f : F5) : prt f = .tuple #[.bool (sg f), .int .u64 (mt f : Int), .int .i64 (xp f)] := by cases f <;> rfl
theorem mt_lt (f : F5) (h : Ok5 f) : mt f < 4294967296 := by
  cases f with
  | none => decide
  | some p => exact h.2.1
theorem xp_le (f : F5) (h : Ok5 f) : -160 ≤ xp f ∧ xp f ≤ 95 := by
  cases f with
  | none => decide
  | some p => obtain ⟨s, m, e⟩ := p; obtain ⟨_, _, _, _⟩ := h; simp only [xp]; omega
def mul5 (f g : F5) : F5 × Int := pack (!(sg f == sg g)) (mt f * mt g) (xp f + xp g) false
theorem ty4 : Try.prog.underlying 4 = some .bool := by kernel_rfl
theorem v_neb' {T : XTab} {fr : Fr} {H : AH} (dd : Option Nat) (x y : Operand) (t' ty : TypeId) : xval Try.prog (xc Try.prog T) ⟨dd, .flat (.binOp .neq 4 x y ty) t', none⟩ fr H =
    altBB (ev fr x) (ev fr y) (fun a b => some (.bool (!(a == b)), H)) (xop Try.prog fr H (.flat (.binOp .neq 4 x y ty) t')) := by
  rw [xval_op dd _ fr H rfl]
  unfold altBB
  split
  · rename_i a b h1 h2
    refine flat_eq ?_ ?_ rfl
    · simp [Op.operands, evFlat, h1, h2, flatD]
    · simp [execOp, flatOper, h1, h2, eqGuard, binOp, Op.equal, show Op.maxDepth = 9999 + 1 from rfl, pureRun_bind, pureRun_map, pureRun_pure, pureRun_eqb 9999 a b ty4]
  · rfl
theorem mul_ok (f g : F5) (hf : Ok5 f) (hg : Ok5 g) (H : AH) (Q : Value → AH → Prop) (hq : ∀ H', HExt H H' → Q (.tuple #[A5 (enc (mul5 f g).1), .int .i64 (mul5 f g).2]) H') : Got (xc Try.prog tab 7 [A5 (enc f), A5 (enc g)] H) Q := by
  refine got_call (res := [.cell 4 (some 5), .tmp 5]) rfl ?_
  obtain ⟨i2, i3, i4, hn, x0⟩ := three5 H (enc f) (enc g)
  have l2 := ld5 i2
  have l3 := ld5 i3
  simp only [ofArgs, run_seq, run_block, run_ops, run_skip, run_exit, run_ret, thenQ_normal, thenQ_exit, thenQ_ret, blockQ_normal, blockQ_exit, blockQ_ret, retQ_ret, retQ_normal, ops_nil, ops_none, got_some, ops_wT, ops_wTn, ops_wF, ops_wFn, ops_wU, dops_wT, dops_wTn, dops_wF, dops_wFn, dops_wU, run_condT, run_condF, alt2_int, altB_bool, altI_int, altBB_bool, v_min, v_max, v_not, v_neg, optEv_none, optEv_some, isSome'_none, isSome'_some, pExt0, pExt1, pExt2, Bool.false_and, Bool.true_and, Bool.not_true, Bool.not_false, cond_true, cond_false, dops_nil, dops_none, xval_call, v_mov, v_bin, v_len, v_ext, v_idxA, v_ld, v_st, v_app, v_appN, v_cvs, v_bs1, pBs1, v_slc, v_conv, v_fld, v_fldA, v_new, v_box, v_mks, v_copy, v_isnil, v_nilck, v_pick, ev, evs_nil, evs_cons, fr_get_cons, fr_put_nil, fr_put_cons, fr_put_some, fr_put_none, fr_keep_nil, fr_keep_cons, fr_has_nil, fr_has_cons, Option.bind_some, Option.map_some, xbin, ibin, xresult_eq, xress_nil, xress_tmp, resV, ex_some, if_true, if_false, ite_true, ite_false, reduceIte, reduceCtorEq, Nat.reduceEqDiff, Nat.reduceLT, Nat.reduceLeDiff, Int.reduceLT, Int.reduceLE, Nat.zero_add, Nat.reduceAdd, Bool.false_eq_true, decide_eq_true_eq, decide_eq_false_iff_not, true_implies, false_implies, and_true, true_and, cells_A5, AH.push_n, l2, l3]
  generalize ((H.push ⟨(enc f).cells, 1, false, false⟩).push ⟨(enc g).cells, 1, false, false⟩).push ⟨[.int .u8 0, .int .u8 0, .int .u8 0, .int .u8 0, .int .u8 0], 1, false, false⟩ = H0 at i2 i3 i4 hn x0
  refine both_ok f g hf hg H0 _ ?_
  intro H1 x1
  have c1 : ((0 : Int) != 0) = false := rfl
  have l2 := ld5 (i2.ext x1 (by omega))
  simp only [ofArgs, run_seq, run_block, run_ops, run_skip, run_exit, run_ret, thenQ_normal, thenQ_exit, thenQ_ret, blockQ_normal, blockQ_exit, blockQ_ret, retQ_ret, retQ_normal, ops_nil, ops_none, got_some, ops_wT, ops_wTn, ops_wF, ops_wFn, ops_wU, dops_wT, dops_wTn, dops_wF, dops_wFn, dops_wU, run_condT, run_condF, alt2_int, altB_bool, altI_int, altBB_bool, v_min, v_max, v_not, v_neg, optEv_none, optEv_some, isSome'_none, isSome'_some, pExt0, pExt1, pExt2, Bool.false_and, Bool.true_and, Bool.not_true, Bool.not_false, cond_true, cond_false, dops_nil, dops_none, xval_call, v_mov, v_bin, v_len, v_ext, v_idxA, v_ld, v_st, v_app, v_appN, v_cvs, v_bs1, pBs1, v_slc, v_conv, v_fld, v_fldA, v_new, v_box, v_mks, v_copy, v_isnil, v_nilck, v_pick, ev, evs_nil, evs_cons, fr_get_cons, fr_put_nil, fr_put_cons, fr_put_some, fr_put_none, fr_keep_nil, fr_keep_cons, fr_has_nil, fr_has_cons, Option.bind_some, Option.map_some, xbin, ibin, xresult_eq, xress_nil, xress_tmp, resV, ex_some, if_true, if_false, ite_true, ite_false, reduceIte, reduceCtorEq, Nat.reduceEqDiff, Nat.reduceLT, Nat.reduceLeDiff, Int.reduceLT, Int.reduceLE, Nat.zero_add, Nat.reduceAdd, Bool.false_eq_true, decide_eq_true_eq, decide_eq_false_iff_not, true_implies, false_implies, and_true, true_and, c1, l2]
  refine parts_ok f hf H1 _ ?_
  intro H2 x2
  have x12 := x1.trans x2
  have l3 := ld5 (i3.ext x12 (by omega))
  simp only [ofArgs, run_seq, run_block, run_ops, run_skip, run_exit, run_ret, thenQ_normal, thenQ_exit, thenQ_ret, blockQ_normal, blockQ_exit, blockQ_ret, retQ_ret, retQ_normal, ops_nil, ops_none, got_some, ops_wT, ops_wTn, ops_wF, ops_wFn, ops_wU, dops_wT, dops_wTn, dops_wF, dops_wFn, dops_wU, run_condT, run_condF, alt2_int, altB_bool, altI_int, altBB_bool, v_min, v_max, v_not, v_neg, optEv_none, optEv_some, isSome'_none, isSome'_some, pExt0, pExt1, pExt2, Bool.false_and, Bool.true_and, Bool.not_true, Bool.not_false, cond_true, cond_false, dops_nil, dops_none, xval_call, v_mov, v_bin, v_len, v_ext, v_idxA, v_ld, v_st, v_app, v_appN, v_cvs, v_bs1, pBs1, v_slc, v_conv, v_fld, v_fldA, v_new, v_box, v_mks, v_copy, v_isnil, v_nilck, v_pick, ev, evs_nil, evs_cons, fr_get_cons, fr_put_nil, fr_put_cons, fr_put_some, fr_put_none, fr_keep_nil, fr_keep_cons, fr_has_nil, fr_has_cons, Option.bind_some, Option.map_some, xbin, ibin, xresult_eq, xress_nil, xress_tmp, resV, ex_some, if_true, if_false, ite_true, ite_false, reduceIte, reduceCtorEq, Nat.reduceEqDiff, Nat.reduceLT, Nat.reduceLeDiff, Int.reduceLT, Int.reduceLE, Nat.zero_add, Nat.reduceAdd, Bool.false_eq_true, decide_eq_true_eq, decide_eq_false_iff_not, true_implies, false_implies, and_true, true_and, prt_eq, l3]
  refine parts_ok g hg H2 _ ?_
  intro H3 x3
  have x13 := x12.trans x3
  have m1 := mt_lt f hf
  have m2 := mt_lt g hg
  have y1 := xp_le f hf
  have y2 := xp_le g hg
  have mm : mt f * mt g < 18446744073709551616 := by
    have := Nat.mul_lt_mul'' m1 m2
    omega
  have w1 : IntKind.u64.wrap ((mt f : Int) * (mt g : Int)) = ((mt f * mt g : Nat) : Int) := by rw [← Int.natCast_mul, wrU _ mm]
  have w2 := wrI (xp f + xp g) (by omega) (by omega)
  simp only [ofArgs, run_seq, run_block, run_ops, run_skip, run_exit, run_ret, thenQ_normal, thenQ_exit, thenQ_ret, blockQ_normal, blockQ_exit, blockQ_ret, retQ_ret, retQ_normal, ops_nil, ops_none, got_some, ops_wT, ops_wTn, ops_wF, ops_wFn, ops_wU, dops_wT, dops_wTn, dops_wF, dops_wFn, dops_wU, run_condT, run_condF, alt2_int, altB_bool, altI_int, altBB_bool, v_min, v_max, v_not, v_neg, optEv_none, optEv_some, isSome'_none, isSome'_some, pExt0, pExt1, pExt2, Bool.false_and, Bool.true_and, Bool.not_true, Bool.not_false, cond_true, cond_false, dops_nil, dops_none, xval_call, v_mov, v_bin, v_len, v_ext, v_idxA, v_ld, v_st, v_app, v_appN, v_cvs, v_bs1, pBs1, v_slc, v_conv, v_fld, v_fldA, v_new, v_box, v_mks, v_copy, v_isnil, v_nilck, v_pick, ev, evs_nil, evs_cons, fr_get_cons, fr_put_nil, fr_put_cons, fr_put_some, fr_put_none, fr_keep_nil, fr_keep_cons, fr_has_nil, fr_has_cons, Option.bind_some, Option.map_some, xbin, ibin, xresult_eq, xress_nil, xress_tmp, resV, ex_some, if_true, if_false, ite_true, ite_false, reduceIte, reduceCtorEq, Nat.reduceEqDiff, Nat.reduceLT, Nat.reduceLeDiff, Int.reduceLT, Int.reduceLE, Nat.zero_add, Nat.reduceAdd, Bool.false_eq_true, decide_eq_true_eq, decide_eq_false_iff_not, true_implies, false_implies, and_true, true_and, prt_eq, v_neb', w1, w2]
  refine pack_ok _ _ mm _ (by omega) (by omega) false H3 _ ?_
  intro H4 x4
  have x14 := x13.trans x4
  unfold mul5 at hq
  generalize pack (!(sg f == sg g)) (mt f * mt g) (xp f + xp g) false = r at hq
  have s1 := st5 (enc r.1) (i4.ext x14 (by omega))
  have hcell := fun (fr : Fr) (xs : List XRes) (h : fr.get 4 = some (.pointer (some ⟨H.n + 1 + 1, 0, none⟩))) => xcell5 fr (H4.set (H.n + 1 + 1) ⟨(enc r.1).cells, 1, false, false⟩) 4 (H.n + 1 + 1) _ xs h (in5_set _ _ _)
  simp only [ofArgs, run_seq, run_block, run_ops, run_skip, run_exit, run_ret, thenQ_normal, thenQ_exit, thenQ_ret, blockQ_normal, blockQ_exit, blockQ_ret, retQ_ret, retQ_normal, ops_nil, ops_none, got_some, ops_wT, ops_wTn, ops_wF, ops_wFn, ops_wU, dops_wT, dops_wTn, dops_wF, dops_wFn, dops_wU, run_condT, run_condF, alt2_int, altB_bool, altI_int, altBB_bool, v_min, v_max, v_not, v_neg, optEv_none, optEv_some, isSome'_none, isSome'_some, pExt0, pExt1, pExt2, Bool.false_and, Bool.true_and, Bool.not_true, Bool.not_false, cond_true, cond_false, dops_nil, dops_none, xval_call, v_mov, v_bin, v_len, v_ext, v_idxA, v_ld, v_st, v_app, v_appN, v_cvs, v_bs1, pBs1, v_slc, v_conv, v_fld, v_fldA, v_new, v_box, v_mks, v_copy, v_isnil, v_nilck, v_pick, ev, evs_nil, evs_cons, fr_get_cons, fr_put_nil, fr_put_cons, fr_put_some, fr_put_none, fr_keep_nil, fr_keep_cons, fr_has_nil, fr_has_cons, Option.bind_some, Option.map_some, xbin, ibin, xresult_eq, xress_nil, xress_tmp, resV, ex_some, if_true, if_false, ite_true, ite_false, reduceIte, reduceCtorEq, Nat.reduceEqDiff, Nat.reduceLT, Nat.reduceLeDiff, Int.reduceLT, Int.reduceLE, Nat.zero_add, Nat.reduceAdd, Bool.false_eq_true, decide_eq_true_eq, decide_eq_false_iff_not, true_implies, false_implies, and_true, true_and, s1, hcell]
  exact hq _ (set_keep H H4 _ _ (x0.trans x14) (by omega))
end Go.Proofs.Ytbkmkelohlmblaa.D
