/- What functions that the law reaches compute, on a heap of the run's own: the conditions stand in each theorem. -/
import Derived.Test.YtbkmkelohlmblaaFvI
set_option linter.unusedSimpArgs false
set_option linter.unusedVariables false
namespace Go.Proofs.Ytbkmkelohlmblaa.D
open Go Go.Det

def int5n (f : F5) : Nat := if 0 ≤ xp f then mt f * 2 ^ (xp f).toNat else if xp f > -32 then mt f / 2 ^ (-(xp f)).toNat else 0
def int5r (f : F5) : Nat := if 0 ≤ xp f then 0 else if xp f > -32 then (if mt f % 2 ^ (-(xp f)).toNat ≠ 0 then 1 else 0) else (if mt f ≠ 0 then 1 else 0)
def int5 (f : F5) : Int × Int := if xp f > 30 then (0, 21) else if sg f then (-((int5n f + int5r f : Nat) : Int), 0) else ((int5n f : Int), 0)
theorem int5n_lt (f : F5) (hf : Ok5 f) (h : ¬ xp f > 30) : int5n f < 4611686018427387904 := by
  have hm := mt_lt f hf
  unfold int5n
  split
  · have h1 : 2 ^ (xp f).toNat ≤ 2 ^ 30 := Nat.pow_le_pow_right (by omega) (by omega)
    have h2 : mt f * 2 ^ (xp f).toNat ≤ mt f * 2 ^ 30 := Nat.mul_le_mul_left _ h1
    omega
  · split
    · have := Nat.div_le_self (mt f) (2 ^ (-(xp f)).toNat); omega
    · omega
theorem fived_ok (H : AH) (Q : Value → AH → Prop) (hq : ∀ H', HExt H H' → Q (.bool true) H') : Got (xc Try.prog tab 5 [] H) Q := by
  refine got_call (res := [.tmp 0]) rfl ?_
  simp only [ofArgs, run_seq, run_block, run_ops, run_skip, run_exit, run_ret, thenQ_normal, thenQ_exit, thenQ_ret, blockQ_normal, blockQ_exit, blockQ_ret, retQ_ret, retQ_normal, ops_nil, ops_none, got_some, ops_wT, ops_wTn, ops_wF, ops_wFn, ops_wU, dops_wT, dops_wTn, dops_wF, dops_wFn, dops_wU, run_condT, run_condF, alt2_int, altB_bool, altI_int, altBB_bool, v_min, v_max, v_not, v_neg, optEv_none, optEv_some, isSome'_none, isSome'_some, pExt0, pExt1, pExt2, Bool.false_and, Bool.true_and, Bool.not_true, Bool.not_false, cond_true, cond_false, dops_nil, dops_none, xval_call, v_mov, v_bin, v_len, v_ext, v_idxA, v_ld, v_st, v_app, v_appN, v_cvs, v_bs1, pBs1, v_slc, v_conv, v_fld, v_fldA, v_new, v_box, v_mks, v_copy, v_isnil, v_nilck, v_pick, ev, evs_nil, evs_cons, fr_get_cons, fr_put_nil, fr_put_cons, fr_put_some, fr_put_none, fr_keep_nil, fr_keep_cons, fr_has_nil, fr_has_cons, Option.bind_some, Option.map_some, xbin, ibin, xresult_eq, xress_nil, xress_tmp, resV, ex_some, if_true, if_false, ite_true, ite_false, reduceIte, reduceCtorEq, Nat.reduceEqDiff, Nat.reduceLT, Nat.reduceLeDiff, Int.reduceLT, Int.reduceLE, Nat.zero_add, Nat.reduceAdd, Bool.false_eq_true, decide_eq_true_eq, decide_eq_false_iff_not, true_implies, false_implies, and_true, true_and]
  refine fiveOf_ok 1 (by omega) (by omega) H _ ?_
  intro H1 x1
  have ep : pack (decide ((1 : Int) < 0)) (1 : Int).natAbs 0 false = (some (false, 2147483648, 129), 0) := by decide +kernel
  rw [ep]
  have l1 := ld5 (in5_putB H1 (enc (some (false, 2147483648, 129))))
  have ee : enc (some (false, 2147483648, 129)) = ⟨129, 0, 0, 0, 0⟩ := by decide
  rw [ee] at l1
  simp only [ofArgs, run_seq, run_block, run_ops, run_skip, run_exit, run_ret, thenQ_normal, thenQ_exit, thenQ_ret, blockQ_normal, blockQ_exit, blockQ_ret, retQ_ret, retQ_normal, ops_nil, ops_none, got_some, ops_wT, ops_wTn, ops_wF, ops_wFn, ops_wU, dops_wT, dops_wTn, dops_wF, dops_wFn, dops_wU, run_condT, run_condF, alt2_int, altB_bool, altI_int, altBB_bool, v_min, v_max, v_not, v_neg, optEv_none, optEv_some, isSome'_none, isSome'_some, pExt0, pExt1, pExt2, Bool.false_and, Bool.true_and, Bool.not_true, Bool.not_false, cond_true, cond_false, dops_nil, dops_none, xval_call, v_mov, v_bin, v_len, v_ext, v_idxA, v_ld, v_st, v_app, v_appN, v_cvs, v_bs1, pBs1, v_slc, v_conv, v_fld, v_fldA, v_new, v_box, v_mks, v_copy, v_isnil, v_nilck, v_pick, ev, evs_nil, evs_cons, fr_get_cons, fr_put_nil, fr_put_cons, fr_put_some, fr_put_none, fr_keep_nil, fr_keep_cons, fr_has_nil, fr_has_cons, Option.bind_some, Option.map_some, xbin, ibin, xresult_eq, xress_nil, xress_tmp, resV, ex_some, if_true, if_false, ite_true, ite_false, reduceIte, reduceCtorEq, Nat.reduceEqDiff, Nat.reduceLT, Nat.reduceLeDiff, Int.reduceLT, Int.reduceLE, Nat.zero_add, Nat.reduceAdd, Bool.false_eq_true, decide_eq_true_eq, decide_eq_false_iff_not, true_implies, false_implies, and_true, true_and, st5_new, l1, v_b5, altb5_int, v_eq5', alt5_A5, ee, decide_true, beq_self_eq_true]
  exact hq _ (x1.trans (putB_ext H1 _))

/-- the law's numbers -/
def num5 (n x : Int) : F5 := match (pack (decide (n % 8589934592 - 4294967296 < 0)) (n % 8589934592 - 4294967296).natAbs 0 false).1 with
  | none => none
  | some (s, m, _) => some (s, m, 100 + (x % 60).toNat)
theorem num5_ok (n x : Int) : Ok5 (num5 n x) := by
  unfold num5
  have h := pack_good (decide (n % 8589934592 - 4294967296 < 0)) (n % 8589934592 - 4294967296).natAbs 0 false
  split
  · trivial
  · rename_i s m e he
    rw [he] at h
    obtain ⟨h1, h2, _, _⟩ := h
    have hd0 := Int.emod_nonneg x (by omega : (60 : Int) ≠ 0)
    have hd1 := Int.emod_lt_of_pos x (by omega : (0 : Int) < 60)
    exact ⟨h1, h2, by omega, by omega⟩
theorem num5_xp (n x : Int) (h : mt (num5 n x) ≠ 0) : -60 ≤ xp (num5 n x) ∧ xp (num5 n x) ≤ -1 := by
  unfold num5 at h ⊢
  generalize (pack (decide (n % 8589934592 - 4294967296 < 0)) (n % 8589934592 - 4294967296).natAbs 0 false).1 = r at h ⊢
  cases r with
  | none => exact absurd rfl h
  | some p =>
    obtain ⟨s, m, e⟩ := p
    have hd0 := Int.emod_nonneg x (by omega : (60 : Int) ≠ 0)
    have hd1 := Int.emod_lt_of_pos x (by omega : (0 : Int) < 60)
    show -60 ≤ ((100 + (x % 60).toNat : Nat) : Int) - 160 ∧ ((100 + (x % 60).toNat : Nat) : Int) - 160 ≤ -1
    omega
theorem number_ok (n x : Int) (H : AH) (Q : Value → AH → Prop) (hq : ∀ H', HExt H H' → Q (A5 (enc (num5 n x))) H') : Got (xc Try.prog tab 4 [.int .i64 n, .int .i64 x] H) Q := by
  refine got_call (res := [.cell 4 (some 5)]) rfl ?_
  have q1 := fun H => below_xc' n 8589934592 H (by omega) (by omega)
  have q2 := fun H => below_xc' x 60 H (by omega) (by omega)
  have hc0 := Int.emod_nonneg n (by omega : (8589934592 : Int) ≠ 0)
  have hc1 := Int.emod_lt_of_pos n (by omega : (0 : Int) < 8589934592)
  have hd0 := Int.emod_nonneg x (by omega : (60 : Int) ≠ 0)
  have hd1 := Int.emod_lt_of_pos x (by omega : (0 : Int) < 60)
  have w1 := wrI (n % 8589934592 - 4294967296) (by omega) (by omega)
  have w2 := wrI (100 + x % 60) (by omega) (by omega)
  have w3 := wrU8' (100 + x % 60) (by omega) (by omega)
  simp only [ofArgs, run_seq, run_block, run_ops, run_skip, run_exit, run_ret, thenQ_normal, thenQ_exit, thenQ_ret, blockQ_normal, blockQ_exit, blockQ_ret, retQ_ret, retQ_normal, ops_nil, ops_none, got_some, ops_wT, ops_wTn, ops_wF, ops_wFn, ops_wU, dops_wT, dops_wTn, dops_wF, dops_wFn, dops_wU, run_condT, run_condF, alt2_int, altB_bool, altI_int, altBB_bool, v_min, v_max, v_not, v_neg, optEv_none, optEv_some, isSome'_none, isSome'_some, pExt0, pExt1, pExt2, Bool.false_and, Bool.true_and, Bool.not_true, Bool.not_false, cond_true, cond_false, dops_nil, dops_none, xval_call, v_mov, v_bin, v_len, v_ext, v_idxA, v_ld, v_st, v_app, v_appN, v_cvs, v_bs1, pBs1, v_slc, v_conv, v_fld, v_fldA, v_new, v_box, v_mks, v_copy, v_isnil, v_nilck, v_pick, ev, evs_nil, evs_cons, fr_get_cons, fr_put_nil, fr_put_cons, fr_put_some, fr_put_none, fr_keep_nil, fr_keep_cons, fr_has_nil, fr_has_cons, Option.bind_some, Option.map_some, xbin, ibin, xresult_eq, xress_nil, xress_tmp, resV, ex_some, if_true, if_false, ite_true, ite_false, reduceIte, reduceCtorEq, Nat.reduceEqDiff, Nat.reduceLT, Nat.reduceLeDiff, Int.reduceLT, Int.reduceLE, Nat.zero_add, Nat.reduceAdd, Bool.false_eq_true, decide_eq_true_eq, decide_eq_false_iff_not, true_implies, false_implies, and_true, true_and, q1, w1]
  have i0 := in5_push H Z5
  rw [cells_Z5] at i0
  have x0 := hext_push H ⟨[.int .u8 0, .int .u8 0, .int .u8 0, .int .u8 0, .int .u8 0], 1, false, false⟩
  have hn0 : (H.push ⟨[.int .u8 0, .int .u8 0, .int .u8 0, .int .u8 0, .int .u8 0], 1, false, false⟩).n = H.n + 1 := rfl
  generalize H.push ⟨[.int .u8 0, .int .u8 0, .int .u8 0, .int .u8 0, .int .u8 0], 1, false, false⟩ = H0 at i0 x0 hn0
  have hg := pack_good (decide (n % 8589934592 - 4294967296 < 0)) (n % 8589934592 - 4294967296).natAbs 0 false
  refine fiveOf_ok _ (by omega) (by omega) H0 _ ?_
  intro H1 x1
  unfold num5 at hq
  generalize pack (decide (n % 8589934592 - 4294967296 < 0)) (n % 8589934592 - 4294967296).natAbs 0 false = r at hq hg
  obtain ⟨f, er⟩ := r
  simp only [] at hq hg
  have b1 := in5_putB H1 (enc f)
  have x2 := putB_ext H1 (enc f)
  have hn2 := putB_n H1 (enc f)
  have i2 : In5 (putB H1 (enc f)) H.n Z5 := (i0.ext x1 (by omega)).ext x2 (by have := x1.1; omega)
  have xx := x0.trans (x1.trans x2)
  simp only [ofArgs, run_seq, run_block, run_ops, run_skip, run_exit, run_ret, thenQ_normal, thenQ_exit, thenQ_ret, blockQ_normal, blockQ_exit, blockQ_ret, retQ_ret, retQ_normal, ops_nil, ops_none, got_some, ops_wT, ops_wTn, ops_wF, ops_wFn, ops_wU, dops_wT, dops_wTn, dops_wF, dops_wFn, dops_wU, run_condT, run_condF, alt2_int, altB_bool, altI_int, altBB_bool, v_min, v_max, v_not, v_neg, optEv_none, optEv_some, isSome'_none, isSome'_some, pExt0, pExt1, pExt2, Bool.false_and, Bool.true_and, Bool.not_true, Bool.not_false, cond_true, cond_false, dops_nil, dops_none, xval_call, v_mov, v_bin, v_len, v_ext, v_idxA, v_ld, v_st, v_app, v_appN, v_cvs, v_bs1, pBs1, v_slc, v_conv, v_fld, v_fldA, v_new, v_box, v_mks, v_copy, v_isnil, v_nilck, v_pick, ev, evs_nil, evs_cons, fr_get_cons, fr_put_nil, fr_put_cons, fr_put_some, fr_put_none, fr_keep_nil, fr_keep_cons, fr_has_nil, fr_has_cons, Option.bind_some, Option.map_some, xbin, ibin, xresult_eq, xress_nil, xress_tmp, resV, ex_some, if_true, if_false, ite_true, ite_false, reduceIte, reduceCtorEq, Nat.reduceEqDiff, Nat.reduceLT, Nat.reduceLeDiff, Int.reduceLT, Int.reduceLE, Nat.zero_add, Nat.reduceAdd, Bool.false_eq_true, decide_eq_true_eq, decide_eq_false_iff_not, true_implies, false_implies, and_true, true_and, st5_new]
  generalize putB H1 (enc f) = H2 at b1 x2 hn2 i2 xx
  have hl := x1.1
  have e0 := ld5_0 b1
  have l5 := ld5 b1
  cases f with
  | none =>
    have ez : (enc none).e = 0 := rfl
    rw [ez] at e0
    have c0 : ¬ (0 : Int) > 0 := by omega
    have s1 := st5 (enc none) i2
    have hcell := fun (fr : Fr) (xs : List XRes) (h : fr.get 4 = some (.pointer (some ⟨H.n, 0, none⟩))) => xcell5 fr (H2.set H.n ⟨(enc none).cells, 1, false, false⟩) 4 H.n _ xs h (in5_set _ _ _)
    simp only [ofArgs, run_seq, run_block, run_ops, run_skip, run_exit, run_ret, thenQ_normal, thenQ_exit, thenQ_ret, blockQ_normal, blockQ_exit, blockQ_ret, retQ_ret, retQ_normal, ops_nil, ops_none, got_some, ops_wT, ops_wTn, ops_wF, ops_wFn, ops_wU, dops_wT, dops_wTn, dops_wF, dops_wFn, dops_wU, run_condT, run_condF, alt2_int, altB_bool, altI_int, altBB_bool, v_min, v_max, v_not, v_neg, optEv_none, optEv_some, isSome'_none, isSome'_some, pExt0, pExt1, pExt2, Bool.false_and, Bool.true_and, Bool.not_true, Bool.not_false, cond_true, cond_false, dops_nil, dops_none, xval_call, v_mov, v_bin, v_len, v_ext, v_idxA, v_ld, v_st, v_app, v_appN, v_cvs, v_bs1, pBs1, v_slc, v_conv, v_fld, v_fldA, v_new, v_box, v_mks, v_copy, v_isnil, v_nilck, v_pick, ev, evs_nil, evs_cons, fr_get_cons, fr_put_nil, fr_put_cons, fr_put_some, fr_put_none, fr_keep_nil, fr_keep_cons, fr_has_nil, fr_has_cons, Option.bind_some, Option.map_some, xbin, ibin, xresult_eq, xress_nil, xress_tmp, resV, ex_some, if_true, if_false, ite_true, ite_false, reduceIte, reduceCtorEq, Nat.reduceEqDiff, Nat.reduceLT, Nat.reduceLeDiff, Int.reduceLT, Int.reduceLE, Nat.zero_add, Nat.reduceAdd, Bool.false_eq_true, decide_eq_true_eq, decide_eq_false_iff_not, true_implies, false_implies, and_true, true_and, pAA_ptr, aa0, e0, c0, decide_false, l5, s1, hcell]
    exact hq _ (set_keep H H2 _ _ xx (Nat.le_refl _))
  | some p =>
    obtain ⟨s, m, e⟩ := p
    obtain ⟨h1, h2, h3, h4⟩ := hg
    rw [enc_e0] at e0
    have c0 : (e : Int) > 0 := by omega
    have s0 := st5_0 (100 + x % 60) b1
    have he : ({ enc (some (s, m, e)) with e := 100 + x % 60 } : W5) = enc (some (s, m, 100 + (x % 60).toNat)) := by
      have : ((100 + (x % 60).toNat : Nat) : Int) = 100 + x % 60 := by omega
      simp only [enc, this]
    rw [he] at s0
    have b3 := in5_set H2 H1.n (enc (some (s, m, 100 + (x % 60).toNat)))
    have i3 : In5 (H2.set H1.n ⟨(enc (some (s, m, 100 + (x % 60).toNat))).cells, 1, false, false⟩) H.n Z5 := by unfold In5; rw [AH.get_set, if_neg (by omega)]; exact i2
    have x3 := set_keep H H2 H1.n (enc (some (s, m, 100 + (x % 60).toNat))) xx (by omega)
    generalize (H2.set H1.n ⟨(enc (some (s, m, 100 + (x % 60).toNat))).cells, 1, false, false⟩) = H3 at s0 b3 i3 x3
    have l5' := ld5 b3
    have s1 := st5 (enc (some (s, m, 100 + (x % 60).toNat))) i3
    have hcell := fun (fr : Fr) (xs : List XRes) (h : fr.get 4 = some (.pointer (some ⟨H.n, 0, none⟩))) => xcell5 fr (H3.set H.n ⟨(enc (some (s, m, 100 + (x % 60).toNat))).cells, 1, false, false⟩) 4 H.n _ xs h (in5_set _ _ _)
    simp only [ofArgs, run_seq, run_block, run_ops, run_skip, run_exit, run_ret, thenQ_normal, thenQ_exit, thenQ_ret, blockQ_normal, blockQ_exit, blockQ_ret, retQ_ret, retQ_normal, ops_nil, ops_none, got_some, ops_wT, ops_wTn, ops_wF, ops_wFn, ops_wU, dops_wT, dops_wTn, dops_wF, dops_wFn, dops_wU, run_condT, run_condF, alt2_int, altB_bool, altI_int, altBB_bool, v_min, v_max, v_not, v_neg, optEv_none, optEv_some, isSome'_none, isSome'_some, pExt0, pExt1, pExt2, Bool.false_and, Bool.true_and, Bool.not_true, Bool.not_false, cond_true, cond_false, dops_nil, dops_none, xval_call, v_mov, v_bin, v_len, v_ext, v_idxA, v_ld, v_st, v_app, v_appN, v_cvs, v_bs1, pBs1, v_slc, v_conv, v_fld, v_fldA, v_new, v_box, v_mks, v_copy, v_isnil, v_nilck, v_pick, ev, evs_nil, evs_cons, fr_get_cons, fr_put_nil, fr_put_cons, fr_put_some, fr_put_none, fr_keep_nil, fr_keep_cons, fr_has_nil, fr_has_cons, Option.bind_some, Option.map_some, xbin, ibin, xresult_eq, xress_nil, xress_tmp, resV, ex_some, if_true, if_false, ite_true, ite_false, reduceIte, reduceCtorEq, Nat.reduceEqDiff, Nat.reduceLT, Nat.reduceLeDiff, Int.reduceLT, Int.reduceLE, Nat.zero_add, Nat.reduceAdd, Bool.false_eq_true, decide_eq_true_eq, decide_eq_false_iff_not, true_implies, false_implies, and_true, true_and, pAA_ptr, aa0, e0, c0, decide_true, q2, w2, pConv, w3, s0, l5', s1, hcell]
    exact hq _ (set_keep H H3 _ _ x3 (Nat.le_refl _))
end Go.Proofs.Ytbkmkelohlmblaa.D
