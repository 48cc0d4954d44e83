/- What functions that the law reaches compute, on a heap of the run's own: the conditions stand in each theorem. -/
import Derived.Test.YtejedmocjdcdgaaFxC
set_option linter.unusedSimpArgs false
set_option linter.unusedVariables false
namespace Go.Proofs.Ytejedmocjdcdgaa.D
open Go Go.Det

/-- a number, limited to most on both sides -/
def clampI (most x : Int) : Int := if -most < (if x < most then x else most) then (if x < most then x else most) else -most
/-- by how much the change number k is moved -/
def mvAt (l : List Int) (most : Int) (k : Nat) : Int := if l.length = 0 then 0 else clampI most (l.getD (k % l.length) 0)
def shk (l : List Int) (most : Int) : Nat → List Int → List Int
  | _, [] => []
  | k, x :: r => (x + mvAt l most k) :: shk l most (k + 1) r
def anyM (l : List Int) (most : Int) : Nat → Nat → Bool
  | _, 0 => false
  | k, n + 1 => (mvAt l most k != 0) || anyM l most (k + 1) n

theorem clamp_bnd (most x : Int) (h : 0 ≤ most) : -most ≤ clampI most x ∧ clampI most x ≤ most := by
  unfold clampI; split <;> split at * <;> omega
theorem mv_bnd (l : List Int) (most : Int) (h : 0 ≤ most) (k : Nat) : -most ≤ mvAt l most k ∧ mvAt l most k ≤ most := by
  unfold mvAt
  split
  · omega
  · exact clamp_bnd most _ h
theorem shk_len (l : List Int) (most : Int) (s : List Int) : ∀ k, (shk l most k s).length = s.length := by
  induction s with
  | nil => intro k; rfl
  | cons x r ih => intro k; simp [shk, ih]
theorem shk_ok (l : List Int) (most : Int) (h : 0 ≤ most) (h3 : most ≤ 3) (t : List Int) : ∀ (a m0 : Int) (k : Nat), -3 ≤ m0 → m0 ≤ 3 → (∀ p ∈ t, 8 ≤ p ∧ p ≤ 307) → Ok (difs (a + m0) (shk l most k (sums a t))) := by
  induction t with
  | nil => intro a m0 k _ _ _ p hp; simp [sums, shk, difs] at hp
  | cons p t ih =>
    intro a m0 k h1 h2 hp q hq
    have hb := mv_bnd l most h k
    have h8 := hp p (by simp)
    simp only [sums, shk, difs, List.mem_cons] at hq
    rcases hq with rfl | hq
    · omega
    · exact ih (a + p) (mvAt l most k) (k + 1) (by omega) (by omega) (fun x hx => hp x (by simp [hx])) q hq
theorem shk_near (l : List Int) (most : Int) (h : 0 ≤ most) (s : List Int) : ∀ k, nears most s (shk l most k s) = true := by
  induction s with
  | nil => intro k; rfl
  | cons x r ih =>
    intro k
    have hb := mv_bnd l most h k
    simp only [shk, nears, ih, Bool.and_true, Bool.and_eq_true, decide_eq_true_eq]
    omega
theorem shk_near0 (l : List Int) (most : Int) (s : List Int) : ∀ k, nears 0 s (shk l most k s) = !(anyM l most k s.length) := by
  induction s with
  | nil => intro k; rfl
  | cons x r ih =>
    intro k
    simp only [shk, nears, ih, List.length_cons, anyM]
    by_cases hm : mvAt l most k = 0
    · have e1 : decide (x - (x + mvAt l most k) ≤ 0) = true := by simp; omega
      have e2 : decide (x + mvAt l most k - x ≤ 0) = true := by simp; omega
      rw [e1, e2, hm]; simp
    · have hne : (mvAt l most k != 0) = true := by simpa using hm
      rw [hne]
      by_cases hp : 0 < mvAt l most k
      · have e2 : decide (x + mvAt l most k - x ≤ 0) = false := by simp; omega
        rw [e2]; simp
      · have e1 : decide (x - (x + mvAt l most k) ≤ 0) = false := by simp; omega
        rw [e1]; simp
theorem shk_eq (l : List Int) (most : Int) (s : List Int) : ∀ k, (s = shk l most k s) ↔ anyM l most k s.length = false := by
  induction s with
  | nil => intro k; simp [shk, anyM]
  | cons x r ih =>
    intro k
    simp only [shk, List.length_cons, anyM, List.cons.injEq, Bool.or_eq_false_iff, ih (k + 1)]
    have : x = x + mvAt l most k ↔ (mvAt l most k != 0) = false := by simp; omega
    rw [this]

theorem shake_l0 (n0 : Nat) (l : List Int) (u : Value) (most : Int) (h0 : 0 ≤ most) (h3 : most ≤ 1000) (hll : l.length ≤ 4611686018427387904) (v : Value) (rest : List Int) : ∀ (pre : List Int) (H : AH) (i N : Int) (Q : XExit → Fr → AH → Prop), OwnI n0 H v (pre ++ rest) → n0 ≤ H.n →
    Ints H u l → (∀ b, inB u b → b < n0) → pre.length + rest.length ≤ 40000 → (∀ x ∈ rest, 0 ≤ x ∧ x ≤ 10000000000) → i = (pre.length : Int) → N = ((pre ++ rest).length : Int) →
    (∀ H', OwnI n0 H' v (pre ++ shk l most pre.length rest) → Keep n0 H H' → Q (.exit 0) [(1, u), (2, .int .i64 most), (8, v), (26, .int .i64 N), (27, .int .i64 N), (28, .bool false)] H') →
    Run Try.prog tab (.loop xflux_Shake_l0) [(1, u), (2, .int .i64 most), (8, v), (26, .int .i64 N), (27, .int .i64 i)] H Q := by
  induction rest with
  | nil =>
    intro pre H i N Q ho hH hu hub hl hb hi hN hq
    rw [run_loop]
    generalize hL : XCode.loop xflux_Shake_l0 = L
    have hiN : i = N := by simp at hN; omega
    subst hiN
    have hf : ¬ i < i := by omega
    simp only [xflux_Shake_l0, ofArgs, run_seq, run_block, run_ops, run_skip, run_exit, run_ret, thenQ_normal, thenQ_exit, thenQ_ret, blockQ_normal, blockQ_exit, blockQ_ret, retQ_ret, retQ_normal, ops_nil, ops_none, got_some, ops_wT, ops_wTn, ops_wF, ops_wFn, ops_wU, dops_wT, dops_wTn, dops_wF, dops_wFn, dops_wU, run_condT, run_condF, alt2_int, altB_bool, altI_int, altBB_bool, v_min, v_max, v_not, v_neg, optEv_none, optEv_some, isSome'_none, isSome'_some, pExt0, pExt1, pExt2, Bool.false_and, Bool.true_and, Bool.not_true, Bool.not_false, cond_true, cond_false, dops_nil, dops_none, xval_call, v_mov, v_bin, v_len, v_ext, v_idxA, v_ld, v_st, v_app, v_appN, v_cvs, v_bs1, pBs1, v_slc, v_conv, v_fld, v_fldA, v_new, v_box, v_mks, v_copy, v_isnil, v_nilck, v_pick, ev, evs_nil, evs_cons, fr_get_cons, fr_put_nil, fr_put_cons, fr_put_some, fr_put_none, fr_keep_nil, fr_keep_cons, fr_has_nil, fr_has_cons, Option.bind_some, Option.map_some, xbin, ibin, xresult_eq, xress_nil, xress_tmp, resV, ex_some, if_true, if_false, ite_true, ite_false, reduceIte, reduceCtorEq, Nat.reduceEqDiff, Nat.reduceLT, Nat.reduceLeDiff, Int.reduceLT, Int.reduceLE, Nat.zero_add, Nat.reduceAdd, Bool.false_eq_true, decide_eq_true_eq, decide_eq_false_iff_not, true_implies, false_implies, and_true, true_and, hf, decide_false]
    have := hq H (by simpa [shk] using ho) (.refl _ _)
    simpa using this
  | cons a rest ih =>
    intro pre H i N Q ho hH hu hub hl hb hi hN hq
    simp only [List.length_cons] at hl
    rw [run_loop]
    generalize hL : XCode.loop xflux_Shake_l0 = L
    have hlt : i < N := by simp at hN; omega
    have ha := hb a (by simp)
    have hs := ho.ints
    have n1 := ints_len hu
    have e4 := wrI (i + 1) (by omega) (by omega)
    by_cases hl0 : l.length = 0
    · have c1 : ¬ (l.length : Int) > 0 := by omega
      simp only [xflux_Shake_l0, ofArgs, run_seq, run_block, run_ops, run_skip, run_exit, run_ret, thenQ_normal, thenQ_exit, thenQ_ret, blockQ_normal, blockQ_exit, blockQ_ret, retQ_ret, retQ_normal, ops_nil, ops_none, got_some, ops_wT, ops_wTn, ops_wF, ops_wFn, ops_wU, dops_wT, dops_wTn, dops_wF, dops_wFn, dops_wU, run_condT, run_condF, alt2_int, altB_bool, altI_int, altBB_bool, v_min, v_max, v_not, v_neg, optEv_none, optEv_some, isSome'_none, isSome'_some, pExt0, pExt1, pExt2, Bool.false_and, Bool.true_and, Bool.not_true, Bool.not_false, cond_true, cond_false, dops_nil, dops_none, xval_call, v_mov, v_bin, v_len, v_ext, v_idxA, v_ld, v_st, v_app, v_appN, v_cvs, v_bs1, pBs1, v_slc, v_conv, v_fld, v_fldA, v_new, v_box, v_mks, v_copy, v_isnil, v_nilck, v_pick, ev, evs_nil, evs_cons, fr_get_cons, fr_put_nil, fr_put_cons, fr_put_some, fr_put_none, fr_keep_nil, fr_keep_cons, fr_has_nil, fr_has_cons, Option.bind_some, Option.map_some, xbin, ibin, xresult_eq, xress_nil, xress_tmp, resV, ex_some, if_true, if_false, ite_true, ite_false, reduceIte, reduceCtorEq, Nat.reduceEqDiff, Nat.reduceLT, Nat.reduceLeDiff, Int.reduceLT, Int.reduceLE, Nat.zero_add, Nat.reduceAdd, Bool.false_eq_true, decide_eq_true_eq, decide_eq_false_iff_not, true_implies, false_implies, and_true, true_and, hlt, decide_true, n1, c1, decide_false, e4]
      subst hL
      have em : mvAt l most pre.length = 0 := by simp [mvAt, hl0]
      refine ih (pre ++ [a]) H (i + 1) N Q (by simpa [OwnI] using ho) hH hu hub (by simp; omega) (fun x hx => hb x (by simp [hx])) (by simp; omega) (by simpa using hN) ?_
      intro H2 o2 k2
      refine hq H2 ?_ k2
      simpa [shk, em] using o2
    · have c1 : (l.length : Int) > 0 := by omega
      have c2 : ¬ (l.length : Int) = 0 := by omega
      have hmod : pre.length % l.length < l.length := Nat.mod_lt _ (by omega)
      have er : Int.tmod i (l.length : Int) = ((pre.length % l.length : Nat) : Int) := by rw [hi, Int.ofNat_tmod]
      have e1 := ints_idx hs i pre.length hi (by simp)
      have e2 := ints_ld hs pre.length a (by simp)
      have e3 := ints_idx hu ((pre.length % l.length : Nat) : Int) (pre.length % l.length) rfl hmod
      have e5 := ints_ld hu (pre.length % l.length) (l.getD (pre.length % l.length) 0) (by rw [List.getD_eq_getElem?_getD, List.getElem?_eq_getElem hmod]; rfl)
      have e6 := wrI (-most) (by omega) (by omega)
      have hmv : mvAt l most pre.length = clampI most (l.getD (pre.length % l.length) 0) := by unfold mvAt; rw [if_neg hl0]
      have hbnd := mv_bnd l most h0 pre.length
      have e7 := wrI (a + mvAt l most pre.length) (by omega) (by omega)
      rw [hmv] at e7
      unfold clampI at e7
      simp only [xflux_Shake_l0, ofArgs, run_seq, run_block, run_ops, run_skip, run_exit, run_ret, thenQ_normal, thenQ_exit, thenQ_ret, blockQ_normal, blockQ_exit, blockQ_ret, retQ_ret, retQ_normal, ops_nil, ops_none, got_some, ops_wT, ops_wTn, ops_wF, ops_wFn, ops_wU, dops_wT, dops_wTn, dops_wF, dops_wFn, dops_wU, run_condT, run_condF, alt2_int, altB_bool, altI_int, altBB_bool, v_min, v_max, v_not, v_neg, optEv_none, optEv_some, isSome'_none, isSome'_some, pExt0, pExt1, pExt2, Bool.false_and, Bool.true_and, Bool.not_true, Bool.not_false, cond_true, cond_false, dops_nil, dops_none, xval_call, v_mov, v_bin, v_len, v_ext, v_idxA, v_ld, v_st, v_app, v_appN, v_cvs, v_bs1, pBs1, v_slc, v_conv, v_fld, v_fldA, v_new, v_box, v_mks, v_copy, v_isnil, v_nilck, v_pick, ev, evs_nil, evs_cons, fr_get_cons, fr_put_nil, fr_put_cons, fr_put_some, fr_put_none, fr_keep_nil, fr_keep_cons, fr_has_nil, fr_has_cons, Option.bind_some, Option.map_some, xbin, ibin, xresult_eq, xress_nil, xress_tmp, resV, ex_some, if_true, if_false, ite_true, ite_false, reduceIte, reduceCtorEq, Nat.reduceEqDiff, Nat.reduceLT, Nat.reduceLeDiff, Int.reduceLT, Int.reduceLE, Nat.zero_add, Nat.reduceAdd, Bool.false_eq_true, decide_eq_true_eq, decide_eq_false_iff_not, true_implies, false_implies, and_true, true_and, hlt, decide_true, n1, c1]
      refine run_dops _ _ _ _ _ rfl ?_
      simp only [ofArgs, run_seq, run_block, run_ops, run_skip, run_exit, run_ret, thenQ_normal, thenQ_exit, thenQ_ret, blockQ_normal, blockQ_exit, blockQ_ret, retQ_ret, retQ_normal, ops_nil, ops_none, got_some, ops_wT, ops_wTn, ops_wF, ops_wFn, ops_wU, dops_wT, dops_wTn, dops_wF, dops_wFn, dops_wU, run_condT, run_condF, alt2_int, altB_bool, altI_int, altBB_bool, v_min, v_max, v_not, v_neg, optEv_none, optEv_some, isSome'_none, isSome'_some, pExt0, pExt1, pExt2, Bool.false_and, Bool.true_and, Bool.not_true, Bool.not_false, cond_true, cond_false, dops_nil, dops_none, xval_call, v_mov, v_bin, v_len, v_ext, v_idxA, v_ld, v_st, v_app, v_appN, v_cvs, v_bs1, pBs1, v_slc, v_conv, v_fld, v_fldA, v_new, v_box, v_mks, v_copy, v_isnil, v_nilck, v_pick, ev, evs_nil, evs_cons, fr_get_cons, fr_put_nil, fr_put_cons, fr_put_some, fr_put_none, fr_keep_nil, fr_keep_cons, fr_has_nil, fr_has_cons, Option.bind_some, Option.map_some, xbin, ibin, xresult_eq, xress_nil, xress_tmp, resV, ex_some, if_true, if_false, ite_true, ite_false, reduceIte, reduceCtorEq, Nat.reduceEqDiff, Nat.reduceLT, Nat.reduceLeDiff, Int.reduceLT, Int.reduceLE, Nat.zero_add, Nat.reduceAdd, Bool.false_eq_true, decide_eq_true_eq, decide_eq_false_iff_not, true_implies, false_implies, and_true, true_and, n1, c2, er, e1, e2, e3, e5, e6, e7, e4]
      refine pSt_own ho (by simp) rfl rfl ?_
      intro H' ho' hs'
      have hk := hs'.keep ho hH
      subst hL
      have ho2 : OwnI n0 H' v ((pre ++ [a + mvAt l most pre.length]) ++ rest) := by
        have el : ((pre ++ [a + mvAt l most pre.length]) ++ rest).length = (pre ++ a :: rest).length := by simp
        unfold OwnI
        rw [el]
        have em : ((pre ++ [a + mvAt l most pre.length]) ++ rest).map (Value.int .i64) = ((pre ++ a :: rest).map (Value.int .i64)).set pre.length (.int .i64 (a + mvAt l most pre.length)) := by simp
        rw [em, hmv]; exact ho'
      refine ih (pre ++ [a + mvAt l most pre.length]) H' (i + 1) N Q ho2 (by have := hk.1; omega) (Ints.keep hu hk hub) hub (by simp; omega) (fun x hx => hb x (by simp [hx])) (by simp; omega) (by simpa using hN) ?_
      intro H2 ho3 hk2
      refine hq H2 ?_ (hk.trans hk2)
      simpa [shk] using ho3

theorem shake_ok (t l : List Int) (most : Int) (s u : Value) (H : AH) (Q : Value → AH → Prop) (hs : Ints H s t) (hu : Ints H u l) (hll : l.length ≤ 4611686018427387904) (h0 : 0 ≤ most) (h3 : most ≤ 1000) (hl : t.length ≤ 40000) (ht : Ok t)
    (hok : Ok (difs 0 (shk l most 0 (sums 0 t))))
    (hq : ∀ v H', OwnI H.n H' v (difs 0 (shk l most 0 (sums 0 t))) → HExt H H' → Q (.tuple [v, .int .i64 0].toArray) H') : Got (xc Try.prog tab 27 [s, u, .int .i64 most] H) Q := by
  refine got_call (res := [.tmp 6, .tmp 7]) rfl ?_
  simp only [ofArgs, run_seq, run_block, run_ops, run_skip, run_exit, run_ret, thenQ_normal, thenQ_exit, thenQ_ret, blockQ_normal, blockQ_exit, blockQ_ret, retQ_ret, retQ_normal, ops_nil, ops_none, got_some, ops_wT, ops_wTn, ops_wF, ops_wFn, ops_wU, dops_wT, dops_wTn, dops_wF, dops_wFn, dops_wU, run_condT, run_condF, alt2_int, altB_bool, altI_int, altBB_bool, v_min, v_max, v_not, v_neg, optEv_none, optEv_some, isSome'_none, isSome'_some, pExt0, pExt1, pExt2, Bool.false_and, Bool.true_and, Bool.not_true, Bool.not_false, cond_true, cond_false, dops_nil, dops_none, xval_call, v_mov, v_bin, v_len, v_ext, v_idxA, v_ld, v_st, v_app, v_appN, v_cvs, v_bs1, pBs1, v_slc, v_conv, v_fld, v_fldA, v_new, v_box, v_mks, v_copy, v_isnil, v_nilck, v_pick, ev, evs_nil, evs_cons, fr_get_cons, fr_put_nil, fr_put_cons, fr_put_some, fr_put_none, fr_keep_nil, fr_keep_cons, fr_has_nil, fr_has_cons, Option.bind_some, Option.map_some, xbin, ibin, xresult_eq, xress_nil, xress_tmp, resV, ex_some, if_true, if_false, ite_true, ite_false, reduceIte, reduceCtorEq, Nat.reduceEqDiff, Nat.reduceLT, Nat.reduceLeDiff, Int.reduceLT, Int.reduceLE, Nat.zero_add, Nat.reduceAdd, Bool.false_eq_true, decide_eq_true_eq, decide_eq_false_iff_not, true_implies, false_implies, and_true, true_and]
  refine marks_ok t s H _ hs hl ht ?_
  intro v1 H1 o1 x1
  have c1 : ¬ most < 0 := by omega
  have c2 : ¬ most > 100000 := by omega
  have n1 := ints_len o1.ints
  simp only [ofArgs, run_seq, run_block, run_ops, run_skip, run_exit, run_ret, thenQ_normal, thenQ_exit, thenQ_ret, blockQ_normal, blockQ_exit, blockQ_ret, retQ_ret, retQ_normal, ops_nil, ops_none, got_some, ops_wT, ops_wTn, ops_wF, ops_wFn, ops_wU, dops_wT, dops_wTn, dops_wF, dops_wFn, dops_wU, run_condT, run_condF, alt2_int, altB_bool, altI_int, altBB_bool, v_min, v_max, v_not, v_neg, optEv_none, optEv_some, isSome'_none, isSome'_some, pExt0, pExt1, pExt2, Bool.false_and, Bool.true_and, Bool.not_true, Bool.not_false, cond_true, cond_false, dops_nil, dops_none, xval_call, v_mov, v_bin, v_len, v_ext, v_idxA, v_ld, v_st, v_app, v_appN, v_cvs, v_bs1, pBs1, v_slc, v_conv, v_fld, v_fldA, v_new, v_box, v_mks, v_copy, v_isnil, v_nilck, v_pick, ev, evs_nil, evs_cons, fr_get_cons, fr_put_nil, fr_put_cons, fr_put_some, fr_put_none, fr_keep_nil, fr_keep_cons, fr_has_nil, fr_has_cons, Option.bind_some, Option.map_some, xbin, ibin, xresult_eq, xress_nil, xress_tmp, resV, ex_some, if_true, if_false, ite_true, ite_false, reduceIte, reduceCtorEq, Nat.reduceEqDiff, Nat.reduceLT, Nat.reduceLeDiff, Int.reduceLT, Int.reduceLE, Nat.zero_add, Nat.reduceAdd, Bool.false_eq_true, decide_eq_true_eq, decide_eq_false_iff_not, true_implies, false_implies, and_true, true_and, c1, c2, n1, decide_false, bne_self_eq_false]
  refine shake_l0 H.n l u most h0 h3 hll v1 (sums 0 t) [] H1 _ _ _ o1 x1.1 (hext_ints x1 hu) (fun b hb => hu.lt b hb) (by simp [sums_len]; omega) (fun x hx => by have := sums_bnd t 0 (by omega) ht x hx; omega) (by simp) (by simp) ?_
  intro H2 o2 k2
  simp only [ofArgs, run_seq, run_block, run_ops, run_skip, run_exit, run_ret, thenQ_normal, thenQ_exit, thenQ_ret, blockQ_normal, blockQ_exit, blockQ_ret, retQ_ret, retQ_normal, ops_nil, ops_none, got_some, ops_wT, ops_wTn, ops_wF, ops_wFn, ops_wU, dops_wT, dops_wTn, dops_wF, dops_wFn, dops_wU, run_condT, run_condF, alt2_int, altB_bool, altI_int, altBB_bool, v_min, v_max, v_not, v_neg, optEv_none, optEv_some, isSome'_none, isSome'_some, pExt0, pExt1, pExt2, Bool.false_and, Bool.true_and, Bool.not_true, Bool.not_false, cond_true, cond_false, dops_nil, dops_none, xval_call, v_mov, v_bin, v_len, v_ext, v_idxA, v_ld, v_st, v_app, v_appN, v_cvs, v_bs1, pBs1, v_slc, v_conv, v_fld, v_fldA, v_new, v_box, v_mks, v_copy, v_isnil, v_nilck, v_pick, ev, evs_nil, evs_cons, fr_get_cons, fr_put_nil, fr_put_cons, fr_put_some, fr_put_none, fr_keep_nil, fr_keep_cons, fr_has_nil, fr_has_cons, Option.bind_some, Option.map_some, xbin, ibin, xresult_eq, xress_nil, xress_tmp, resV, ex_some, if_true, if_false, ite_true, ite_false, reduceIte, reduceCtorEq, Nat.reduceEqDiff, Nat.reduceLT, Nat.reduceLeDiff, Int.reduceLT, Int.reduceLE, Nat.zero_add, Nat.reduceAdd, Bool.false_eq_true, decide_eq_true_eq, decide_eq_false_iff_not, true_implies, false_implies, and_true, true_and]
  simp only [List.nil_append, List.length_nil] at o2
  refine of_ok _ v1 H2 _ o2.ints (by simp [shk_len, sums_len]; omega) hok ?_
  intro v3 H3 o3 x3
  simp only [ofArgs, run_seq, run_block, run_ops, run_skip, run_exit, run_ret, thenQ_normal, thenQ_exit, thenQ_ret, blockQ_normal, blockQ_exit, blockQ_ret, retQ_ret, retQ_normal, ops_nil, ops_none, got_some, ops_wT, ops_wTn, ops_wF, ops_wFn, ops_wU, dops_wT, dops_wTn, dops_wF, dops_wFn, dops_wU, run_condT, run_condF, alt2_int, altB_bool, altI_int, altBB_bool, v_min, v_max, v_not, v_neg, optEv_none, optEv_some, isSome'_none, isSome'_some, pExt0, pExt1, pExt2, Bool.false_and, Bool.true_and, Bool.not_true, Bool.not_false, cond_true, cond_false, dops_nil, dops_none, xval_call, v_mov, v_bin, v_len, v_ext, v_idxA, v_ld, v_st, v_app, v_appN, v_cvs, v_bs1, pBs1, v_slc, v_conv, v_fld, v_fldA, v_new, v_box, v_mks, v_copy, v_isnil, v_nilck, v_pick, ev, evs_nil, evs_cons, fr_get_cons, fr_put_nil, fr_put_cons, fr_put_some, fr_put_none, fr_keep_nil, fr_keep_cons, fr_has_nil, fr_has_cons, Option.bind_some, Option.map_some, xbin, ibin, xresult_eq, xress_nil, xress_tmp, resV, ex_some, if_true, if_false, ite_true, ite_false, reduceIte, reduceCtorEq, Nat.reduceEqDiff, Nat.reduceLT, Nat.reduceLeDiff, Int.reduceLT, Int.reduceLE, Nat.zero_add, Nat.reduceAdd, Bool.false_eq_true, decide_eq_true_eq, decide_eq_false_iff_not, true_implies, false_implies, and_true, true_and]
  have hn2 : H.n ≤ H2.n := Nat.le_trans x1.1 k2.1
  exact hq v3 H3 (o3.le hn2) ((Keep.ext (x1.keep (Nat.le_refl _) |>.trans k2)).trans x3)
end Go.Proofs.Ytejedmocjdcdgaa.D
