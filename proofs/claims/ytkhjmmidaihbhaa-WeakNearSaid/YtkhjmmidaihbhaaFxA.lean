/- What functions that the law reaches compute, on a heap of the run's own: the conditions stand in each theorem. -/
import Derived.Test.YtkhjmmidaihbhaaDet22
import Derived.Test.YtkhjmmidaihbhaaTab
set_option linter.unusedSimpArgs false
set_option linter.unusedVariables false
namespace Go.Proofs.Ytkhjmmidaihbhaa.D
open Go Go.Det

/-- The running sums of a list. -/
def sums : Int → List Int → List Int
  | _, [] => []
  | a, p :: t => (a + p) :: sums (a + p) t
/-- The differences of a list. -/
def difs : Int → List Int → List Int
  | _, [] => []
  | a, x :: t => (x - a) :: difs x t
theorem sums_len (t : List Int) : ∀ a, (sums a t).length = t.length := by
  induction t with
  | nil => intro a; rfl
  | cons p t ih => intro a; simp [sums, ih]
theorem difs_len (t : List Int) : ∀ a, (difs a t).length = t.length := by
  induction t with
  | nil => intro a; rfl
  | cons p t ih => intro a; simp [difs, ih]
theorem difs_sums (t : List Int) : ∀ a, difs a (sums a t) = t := by
  induction t with
  | nil => intro a; rfl
  | cons p t ih => intro a; simp only [sums, difs, ih]; rw [Int.add_comm a p, Int.add_sub_cancel]
theorem sums_difs (t : List Int) : ∀ a, sums a (difs a t) = t := by
  induction t with
  | nil => intro a; rfl
  | cons p t ih =>
    intro a
    simp only [sums, difs]
    have : a + (p - a) = p := by omega
    rw [this, ih]
/-- Times that a track may have. -/
def Ok (t : List Int) : Prop := ∀ p ∈ t, 1 ≤ p ∧ p ≤ 100000
/-- The track of raw numbers. -/
def trk (l : List Int) : List Int := (l.take 1000).map fun x => 8 + x % 300
theorem trk_len (l : List Int) : (trk l).length ≤ 1000 := by simp [trk]; omega
theorem trk_ok (l : List Int) : ∀ p ∈ trk l, 8 ≤ p ∧ p ≤ 307 := by
  intro p hp
  simp only [trk, List.mem_map] at hp
  obtain ⟨x, _, rfl⟩ := hp
  omega
theorem sums_bnd (t : List Int) : ∀ a, 0 ≤ a → Ok t → ∀ x ∈ sums a t, 0 ≤ x ∧ x ≤ a + 100000 * (t.length : Int) := by
  induction t with
  | nil => intro a _ _ x hx; simp [sums] at hx
  | cons p t ih =>
    intro a h0 h x hx
    have hp := h p (by simp)
    simp only [sums, List.mem_cons] at hx
    simp only [List.length_cons]
    rcases hx with rfl | hx
    · omega
    · have := ih (a + p) (by omega) (fun q hq => h q (by simp [hq])) x hx
      omega
theorem app1 (pre : List Int) (a : Int) (rest : List Int) : pre ++ a :: rest = (pre ++ [a]) ++ rest := by simp
theorem below_xc' (a b : Int) (H : AH) (hb : 0 < b) (hb' : b < 4611686018427387904) : xc Try.prog tab 24 [.int .i64 a, .int .i64 b] H = some (.int .i64 (a % b), H) := by
  have go : Got (xc Try.prog tab 24 [.int .i64 a, .int .i64 b] H) fun v H' => v = .int .i64 (a % b) ∧ H' = H := by
    refine got_call (res := [.tmp 4]) rfl ?_
    have hb0 : ¬ b = 0 := by omega
    have h1 := Int.tmod_lt_of_pos a hb
    have h2 : -b < Int.tmod a b := by
      have := Int.lt_tmod_of_pos a hb; simpa using this
    have e : a % b = if Int.tmod a b < 0 then Int.tmod a b + b else Int.tmod a b := by
      have h3 : a = b * Int.tdiv a b + Int.tmod a b := (Int.mul_tdiv_add_tmod a b).symm
      have h4 : a % b = Int.tmod a b % b := by
        conv => lhs; rw [h3]
        rw [Int.mul_add_emod_self_left]
      rw [h4]
      split
      · rw [← Int.add_emod_right, Int.emod_eq_of_lt (by omega) (by omega)]
      · rw [Int.emod_eq_of_lt (by omega) (by omega)]
    simp only [ofArgs, run_seq, run_block, run_ops, run_skip, run_exit, run_ret, thenQ_normal, thenQ_exit, thenQ_ret, blockQ_normal, blockQ_exit, blockQ_ret, retQ_ret, retQ_normal, ops_nil, ops_none, got_some, ops_wT, ops_wTn, ops_wF, ops_wFn, ops_wU, dops_wT, dops_wTn, dops_wF, dops_wFn, dops_wU, run_condT, run_condF, alt2_int, altB_bool, altI_int, altBB_bool, v_min, v_max, v_not, v_neg, optEv_none, optEv_some, isSome'_none, isSome'_some, pExt0, pExt1, pExt2, Bool.false_and, Bool.true_and, Bool.not_true, Bool.not_false, cond_true, cond_false, dops_nil, dops_none, xval_call, v_mov, v_bin, v_len, v_ext, v_idxA, v_ld, v_st, v_app, v_appN, v_cvs, v_bs1, pBs1, v_slc, v_conv, v_fld, v_fldA, v_new, v_box, v_mks, v_copy, v_isnil, v_nilck, v_pick, ev, evs_nil, evs_cons, fr_get_cons, fr_put_nil, fr_put_cons, fr_put_some, fr_put_none, fr_keep_nil, fr_keep_cons, fr_has_nil, fr_has_cons, Option.bind_some, Option.map_some, xbin, ibin, xresult_eq, xress_nil, xress_tmp, resV, ex_some, if_true, if_false, ite_true, ite_false, reduceIte, reduceCtorEq, Nat.reduceEqDiff, Nat.reduceLT, Nat.reduceLeDiff, Int.reduceLT, Int.reduceLE, Nat.zero_add, Nat.reduceAdd, Bool.false_eq_true, decide_eq_true_eq, decide_eq_false_iff_not, true_implies, false_implies, and_true, true_and, run_cond, cond_some, hb0]
    refine ⟨fun h => ?_, fun h => ?_⟩
    · rw [wrI _ (by omega) (by omega), e, if_pos h]
    · rw [e, if_neg h]
  obtain ⟨v, H', h, rfl, rfl⟩ := go
  exact h
theorem below_xc (a b : Int) (H : AH) (hb : 0 < b) (hb' : b < 1000000) : xc Try.prog tab 24 [.int .i64 a, .int .i64 b] H = some (.int .i64 (a % b), H) := below_xc' a b H hb (by omega)

theorem track_l0 (n0 : Nat) (s : Value) (rest : List Int) : ∀ (pre acc : List Int) (v : Value) (H : AH) (i N : Int) (Q : XExit → Fr → AH → Prop), Ints H s (pre ++ rest) → (∀ b, inB s b → b < n0) → OwnI n0 H v acc → n0 ≤ H.n →
    pre.length + rest.length ≤ 1000 → acc.length ≤ pre.length → i = (pre.length : Int) → N = ((pre ++ rest).length : Int) →
    (∀ v' H', OwnI n0 H' v' (acc ++ rest.map fun x => 8 + x % 300) → Keep n0 H H' → Q (.exit 0) [(3, v'), (10, s), (11, .int .i64 N), (12, .int .i64 N), (13, .bool false)] H') →
    Run Try.prog tab (.loop xbakekeep2_track_l0) [(3, v), (10, s), (11, .int .i64 N), (12, .int .i64 i)] H Q := by
  induction rest with
  | nil =>
    intro pre acc v H i N Q hs hsb ho hn hl hal hi hN hq
    rw [run_loop]
    generalize hL : XCode.loop xbakekeep2_track_l0 = L
    have hiN : i = N := by simp at hN; omega
    subst hiN
    have hf : ¬ i < i := by omega
    simp only [xbakekeep2_track_l0, ofArgs, run_seq, run_block, run_ops, run_skip, run_exit, run_ret, thenQ_normal, thenQ_exit, thenQ_ret, blockQ_normal, blockQ_exit, blockQ_ret, retQ_ret, retQ_normal, ops_nil, ops_none, got_some, ops_wT, ops_wTn, ops_wF, ops_wFn, ops_wU, dops_wT, dops_wTn, dops_wF, dops_wFn, dops_wU, run_condT, run_condF, alt2_int, altB_bool, altI_int, altBB_bool, v_min, v_max, v_not, v_neg, optEv_none, optEv_some, isSome'_none, isSome'_some, pExt0, pExt1, pExt2, Bool.false_and, Bool.true_and, Bool.not_true, Bool.not_false, cond_true, cond_false, dops_nil, dops_none, xval_call, v_mov, v_bin, v_len, v_ext, v_idxA, v_ld, v_st, v_app, v_appN, v_cvs, v_bs1, pBs1, v_slc, v_conv, v_fld, v_fldA, v_new, v_box, v_mks, v_copy, v_isnil, v_nilck, v_pick, ev, evs_nil, evs_cons, fr_get_cons, fr_put_nil, fr_put_cons, fr_put_some, fr_put_none, fr_keep_nil, fr_keep_cons, fr_has_nil, fr_has_cons, Option.bind_some, Option.map_some, xbin, ibin, xresult_eq, xress_nil, xress_tmp, resV, ex_some, if_true, if_false, ite_true, ite_false, reduceIte, reduceCtorEq, Nat.reduceEqDiff, Nat.reduceLT, Nat.reduceLeDiff, Int.reduceLT, Int.reduceLE, Nat.zero_add, Nat.reduceAdd, Bool.false_eq_true, decide_eq_true_eq, decide_eq_false_iff_not, true_implies, false_implies, and_true, true_and, hf, decide_false]
    have := hq v H (by simpa using ho) (.refl _ _)
    simpa using this
  | cons a rest ih =>
    intro pre acc v H i N Q hs hsb ho hn hl hal hi hN hq
    simp only [List.length_cons] at hl
    rw [run_loop]
    generalize hL : XCode.loop xbakekeep2_track_l0 = L
    have hlt : i < N := by simp at hN; omega
    have h0 : (0 : Int) ≤ a % 300 := Int.emod_nonneg _ (by omega)
    have h3 : a % 300 < 300 := Int.emod_lt_of_pos _ (by omega)
    have e1 := ints_idx hs i pre.length hi (by simp)
    have e2 := ints_ld hs pre.length a (by simp)
    have e3 := wrI (8 + a % 300) (by omega) (by omega)
    have e4 := wrI (i + 1) (by omega) (by omega)
    have b300 := below_xc a 300 H (by omega) (by omega)
    simp only [xbakekeep2_track_l0, ofArgs, run_seq, run_block, run_ops, run_skip, run_exit, run_ret, thenQ_normal, thenQ_exit, thenQ_ret, blockQ_normal, blockQ_exit, blockQ_ret, retQ_ret, retQ_normal, ops_nil, ops_none, got_some, ops_wT, ops_wTn, ops_wF, ops_wFn, ops_wU, dops_wT, dops_wTn, dops_wF, dops_wFn, dops_wU, run_condT, run_condF, alt2_int, altB_bool, altI_int, altBB_bool, v_min, v_max, v_not, v_neg, optEv_none, optEv_some, isSome'_none, isSome'_some, pExt0, pExt1, pExt2, Bool.false_and, Bool.true_and, Bool.not_true, Bool.not_false, cond_true, cond_false, dops_nil, dops_none, xval_call, v_mov, v_bin, v_len, v_ext, v_idxA, v_ld, v_st, v_app, v_appN, v_cvs, v_bs1, pBs1, v_slc, v_conv, v_fld, v_fldA, v_new, v_box, v_mks, v_copy, v_isnil, v_nilck, v_pick, ev, evs_nil, evs_cons, fr_get_cons, fr_put_nil, fr_put_cons, fr_put_some, fr_put_none, fr_keep_nil, fr_keep_cons, fr_has_nil, fr_has_cons, Option.bind_some, Option.map_some, xbin, ibin, xresult_eq, xress_nil, xress_tmp, resV, ex_some, if_true, if_false, ite_true, ite_false, reduceIte, reduceCtorEq, Nat.reduceEqDiff, Nat.reduceLT, Nat.reduceLeDiff, Int.reduceLT, Int.reduceLE, Nat.zero_add, Nat.reduceAdd, Bool.false_eq_true, decide_eq_true_eq, decide_eq_false_iff_not, true_implies, false_implies, and_true, true_and, hlt, decide_true, e1, e2, e3, e4, b300]
    refine app_one ho hn (by omega) fun v' H' ho' hs' => ?_
    have hk := hs'.keep ho hn
    subst hL
    refine ih (pre ++ [a]) (acc ++ [8 + a % 300]) v' H' (i + 1) N Q ((Ints.keep hs hk hsb).app1) hsb ho' (by have := hk.1; omega) (by simp; omega) (by simp; omega) (by simp; omega) (by simpa using hN) ?_
    intro v2 H2 ho2 hk2
    exact hq v2 H2 (by simpa using ho2) (hk.trans hk2)

theorem track_ok (l : List Int) (s : Value) (H : AH) (Q : Value → AH → Prop) (hs : Ints H s l) (hq : ∀ v H', OwnI H.n H' v (trk l) → HExt H H' → Q v H') : Got (xc Try.prog tab 32 [s] H) Q := by
  refine got_call (res := [.tmp 2]) rfl ?_
  have em : (if (1000 : Int) < (l.length : Int) then 1000 else (l.length : Int)) = ((min l.length 1000 : Nat) : Int) := by split <;> omega
  obtain ⟨s', e1, e2, e3, _⟩ := xslc_ok (lo := none) (hi := some (.int .i64 ((min l.length 1000 : Nat) : Int))) (i := 0) (h := min l.length 1000) hs rfl rfl (Nat.zero_le _) (by omega)
  have ht : l.take (min l.length 1000) = l.take 1000 := by
    rcases Nat.le_total l.length 1000 with h | h
    · rw [Nat.min_eq_left h, List.take_of_length_le (Nat.le_refl _), List.take_of_length_le h]
    · rw [Nat.min_eq_right h]
  have hs' : Ints H s' (l.take 1000) := by
    have hl : (l.take 1000).length = min l.length 1000 - 0 := by rw [List.length_take]; omega
    unfold Ints
    rw [hl, ← ht, List.map_take]
    simpa using e2
  have e4 := ints_len hs
  have e5 := ints_len hs'
  simp only [xbakekeep2_track, ofArgs, run_seq, run_block, run_ops, run_skip, run_exit, run_ret, thenQ_normal, thenQ_exit, thenQ_ret, blockQ_normal, blockQ_exit, blockQ_ret, retQ_ret, retQ_normal, ops_nil, ops_none, got_some, ops_wT, ops_wTn, ops_wF, ops_wFn, ops_wU, dops_wT, dops_wTn, dops_wF, dops_wFn, dops_wU, run_condT, run_condF, alt2_int, altB_bool, altI_int, altBB_bool, v_min, v_max, v_not, v_neg, optEv_none, optEv_some, isSome'_none, isSome'_some, pExt0, pExt1, pExt2, Bool.false_and, Bool.true_and, Bool.not_true, Bool.not_false, cond_true, cond_false, dops_nil, dops_none, xval_call, v_mov, v_bin, v_len, v_ext, v_idxA, v_ld, v_st, v_app, v_appN, v_cvs, v_bs1, pBs1, v_slc, v_conv, v_fld, v_fldA, v_new, v_box, v_mks, v_copy, v_isnil, v_nilck, v_pick, ev, evs_nil, evs_cons, fr_get_cons, fr_put_nil, fr_put_cons, fr_put_some, fr_put_none, fr_keep_nil, fr_keep_cons, fr_has_nil, fr_has_cons, Option.bind_some, Option.map_some, xbin, ibin, xresult_eq, xress_nil, xress_tmp, resV, ex_some, if_true, if_false, ite_true, ite_false, reduceIte, reduceCtorEq, Nat.reduceEqDiff, Nat.reduceLT, Nat.reduceLeDiff, Int.reduceLT, Int.reduceLE, Nat.zero_add, Nat.reduceAdd, Bool.false_eq_true, decide_eq_true_eq, decide_eq_false_iff_not, true_implies, false_implies, and_true, true_and, e4, em, e1, e5]
  refine track_l0 H.n s' (l.take 1000) [] [] _ H _ _ _ hs' (fun b hb => hs'.lt b hb) (OwnI.nil _ _) (Nat.le_refl _) (by simp; omega) (by simp) (by simp) (by simp) ?_
  intro v' H' h1 h2
  simp only [ofArgs, run_seq, run_block, run_ops, run_skip, run_exit, run_ret, thenQ_normal, thenQ_exit, thenQ_ret, blockQ_normal, blockQ_exit, blockQ_ret, retQ_ret, retQ_normal, ops_nil, ops_none, got_some, ops_wT, ops_wTn, ops_wF, ops_wFn, ops_wU, dops_wT, dops_wTn, dops_wF, dops_wFn, dops_wU, run_condT, run_condF, alt2_int, altB_bool, altI_int, altBB_bool, v_min, v_max, v_not, v_neg, optEv_none, optEv_some, isSome'_none, isSome'_some, pExt0, pExt1, pExt2, Bool.false_and, Bool.true_and, Bool.not_true, Bool.not_false, cond_true, cond_false, dops_nil, dops_none, xval_call, v_mov, v_bin, v_len, v_ext, v_idxA, v_ld, v_st, v_app, v_appN, v_cvs, v_bs1, pBs1, v_slc, v_conv, v_fld, v_fldA, v_new, v_box, v_mks, v_copy, v_isnil, v_nilck, v_pick, ev, evs_nil, evs_cons, fr_get_cons, fr_put_nil, fr_put_cons, fr_put_some, fr_put_none, fr_keep_nil, fr_keep_cons, fr_has_nil, fr_has_cons, Option.bind_some, Option.map_some, xbin, ibin, xresult_eq, xress_nil, xress_tmp, resV, ex_some, if_true, if_false, ite_true, ite_false, reduceIte, reduceCtorEq, Nat.reduceEqDiff, Nat.reduceLT, Nat.reduceLeDiff, Int.reduceLT, Int.reduceLE, Nat.zero_add, Nat.reduceAdd, Bool.false_eq_true, decide_eq_true_eq, decide_eq_false_iff_not, true_implies, false_implies, and_true, true_and]
  exact hq v' H' (by simpa [trk] using h1) h2

theorem check_l0 (s : Value) (H : AH) (rest : List Int) : ∀ (pre : List Int) (i N : Int) (Q : XExit → Fr → AH → Prop), Ints H s (pre ++ rest) → pre.length + rest.length ≤ 40000 → Ok rest → i = (pre.length : Int) → N = ((pre ++ rest).length : Int) →
    Q (.exit 0) [(8, s), (9, .int .i64 N), (10, .int .i64 N), (11, .bool false)] H → Run Try.prog tab (.loop xflux_Check_l0) [(8, s), (9, .int .i64 N), (10, .int .i64 i)] H Q := by
  induction rest with
  | nil =>
    intro pre i N Q hs hl hok hi hN hq
    rw [run_loop]
    generalize hL : XCode.loop xflux_Check_l0 = L
    have hiN : i = N := by simp at hN; omega
    subst hiN
    have hf : ¬ i < i := by omega
    simp only [xflux_Check_l0, ofArgs, run_seq, run_block, run_ops, run_skip, run_exit, run_ret, thenQ_normal, thenQ_exit, thenQ_ret, blockQ_normal, blockQ_exit, blockQ_ret, retQ_ret, retQ_normal, ops_nil, ops_none, got_some, ops_wT, ops_wTn, ops_wF, ops_wFn, ops_wU, dops_wT, dops_wTn, dops_wF, dops_wFn, dops_wU, run_condT, run_condF, alt2_int, altB_bool, altI_int, altBB_bool, v_min, v_max, v_not, v_neg, optEv_none, optEv_some, isSome'_none, isSome'_some, pExt0, pExt1, pExt2, Bool.false_and, Bool.true_and, Bool.not_true, Bool.not_false, cond_true, cond_false, dops_nil, dops_none, xval_call, v_mov, v_bin, v_len, v_ext, v_idxA, v_ld, v_st, v_app, v_appN, v_cvs, v_bs1, pBs1, v_slc, v_conv, v_fld, v_fldA, v_new, v_box, v_mks, v_copy, v_isnil, v_nilck, v_pick, ev, evs_nil, evs_cons, fr_get_cons, fr_put_nil, fr_put_cons, fr_put_some, fr_put_none, fr_keep_nil, fr_keep_cons, fr_has_nil, fr_has_cons, Option.bind_some, Option.map_some, xbin, ibin, xresult_eq, xress_nil, xress_tmp, resV, ex_some, if_true, if_false, ite_true, ite_false, reduceIte, reduceCtorEq, Nat.reduceEqDiff, Nat.reduceLT, Nat.reduceLeDiff, Int.reduceLT, Int.reduceLE, Nat.zero_add, Nat.reduceAdd, Bool.false_eq_true, decide_eq_true_eq, decide_eq_false_iff_not, true_implies, false_implies, and_true, true_and, hf, decide_false]
    simpa using hq
  | cons a rest ih =>
    intro pre i N Q hs hl hok hi hN hq
    simp only [List.length_cons] at hl
    rw [run_loop]
    generalize hL : XCode.loop xflux_Check_l0 = L
    have hlt : i < N := by simp at hN; omega
    have ha := hok a (by simp)
    have c1 : ¬ a < 1 := by omega
    have c2 : ¬ a > 100000 := by omega
    have e1 := ints_idx hs i pre.length hi (by simp)
    have e2 := ints_ld hs pre.length a (by simp)
    have e4 := wrI (i + 1) (by omega) (by omega)
    simp only [xflux_Check_l0, ofArgs, run_seq, run_block, run_ops, run_skip, run_exit, run_ret, thenQ_normal, thenQ_exit, thenQ_ret, blockQ_normal, blockQ_exit, blockQ_ret, retQ_ret, retQ_normal, ops_nil, ops_none, got_some, ops_wT, ops_wTn, ops_wF, ops_wFn, ops_wU, dops_wT, dops_wTn, dops_wF, dops_wFn, dops_wU, run_condT, run_condF, alt2_int, altB_bool, altI_int, altBB_bool, v_min, v_max, v_not, v_neg, optEv_none, optEv_some, isSome'_none, isSome'_some, pExt0, pExt1, pExt2, Bool.false_and, Bool.true_and, Bool.not_true, Bool.not_false, cond_true, cond_false, dops_nil, dops_none, xval_call, v_mov, v_bin, v_len, v_ext, v_idxA, v_ld, v_st, v_app, v_appN, v_cvs, v_bs1, pBs1, v_slc, v_conv, v_fld, v_fldA, v_new, v_box, v_mks, v_copy, v_isnil, v_nilck, v_pick, ev, evs_nil, evs_cons, fr_get_cons, fr_put_nil, fr_put_cons, fr_put_some, fr_put_none, fr_keep_nil, fr_keep_cons, fr_has_nil, fr_has_cons, Option.bind_some, Option.map_some, xbin, ibin, xresult_eq, xress_nil, xress_tmp, resV, ex_some, if_true, if_false, ite_true, ite_false, reduceIte, reduceCtorEq, Nat.reduceEqDiff, Nat.reduceLT, Nat.reduceLeDiff, Int.reduceLT, Int.reduceLE, Nat.zero_add, Nat.reduceAdd, Bool.false_eq_true, decide_eq_true_eq, decide_eq_false_iff_not, true_implies, false_implies, and_true, true_and, hlt, decide_true, e1, e2, e4, c1, c2, decide_false]
    subst hL
    exact ih (pre ++ [a]) (i + 1) N Q (Ints.app1 hs) (by simp; omega) (fun p hp => hok p (by simp [hp])) (by simp; omega) (by simpa using hN) hq

theorem got_xc {f : FuncId} {args : List Value} {H : AH} {v : Value} (h : Got (xc Try.prog tab f args H) fun v' H' => v' = v ∧ H' = H) : xc Try.prog tab f args H = some (v, H) := by
  obtain ⟨v, H', h, rfl, rfl⟩ := h
  exact h

theorem check_xc (l : List Int) (s : Value) (H : AH) (hs : Ints H s l) (hl : l.length ≤ 40000) (hok : Ok l) : xc Try.prog tab 66 [s] H = some (.int .i64 0, H) := by
  refine got_xc (got_call (res := [.tmp 2]) rfl ?_)
  have e4 := ints_len hs
  have c1 : ¬ (l.length : Int) > 40000 := by omega
  simp only [ofArgs, run_seq, run_block, run_ops, run_skip, run_exit, run_ret, thenQ_normal, thenQ_exit, thenQ_ret, blockQ_normal, blockQ_exit, blockQ_ret, retQ_ret, retQ_normal, ops_nil, ops_none, got_some, ops_wT, ops_wTn, ops_wF, ops_wFn, ops_wU, dops_wT, dops_wTn, dops_wF, dops_wFn, dops_wU, run_condT, run_condF, alt2_int, altB_bool, altI_int, altBB_bool, v_min, v_max, v_not, v_neg, optEv_none, optEv_some, isSome'_none, isSome'_some, pExt0, pExt1, pExt2, Bool.false_and, Bool.true_and, Bool.not_true, Bool.not_false, cond_true, cond_false, dops_nil, dops_none, xval_call, v_mov, v_bin, v_len, v_ext, v_idxA, v_ld, v_st, v_app, v_appN, v_cvs, v_bs1, pBs1, v_slc, v_conv, v_fld, v_fldA, v_new, v_box, v_mks, v_copy, v_isnil, v_nilck, v_pick, ev, evs_nil, evs_cons, fr_get_cons, fr_put_nil, fr_put_cons, fr_put_some, fr_put_none, fr_keep_nil, fr_keep_cons, fr_has_nil, fr_has_cons, Option.bind_some, Option.map_some, xbin, ibin, xresult_eq, xress_nil, xress_tmp, resV, ex_some, if_true, if_false, ite_true, ite_false, reduceIte, reduceCtorEq, Nat.reduceEqDiff, Nat.reduceLT, Nat.reduceLeDiff, Int.reduceLT, Int.reduceLE, Nat.zero_add, Nat.reduceAdd, Bool.false_eq_true, decide_eq_true_eq, decide_eq_false_iff_not, true_implies, false_implies, and_true, true_and, e4, c1, decide_false]
  refine check_l0 s H l [] _ _ _ hs (by simpa using hl) hok (by simp) (by simp) ?_
  simp only [ofArgs, run_seq, run_block, run_ops, run_skip, run_exit, run_ret, thenQ_normal, thenQ_exit, thenQ_ret, blockQ_normal, blockQ_exit, blockQ_ret, retQ_ret, retQ_normal, ops_nil, ops_none, got_some, ops_wT, ops_wTn, ops_wF, ops_wFn, ops_wU, dops_wT, dops_wTn, dops_wF, dops_wFn, dops_wU, run_condT, run_condF, alt2_int, altB_bool, altI_int, altBB_bool, v_min, v_max, v_not, v_neg, optEv_none, optEv_some, isSome'_none, isSome'_some, pExt0, pExt1, pExt2, Bool.false_and, Bool.true_and, Bool.not_true, Bool.not_false, cond_true, cond_false, dops_nil, dops_none, xval_call, v_mov, v_bin, v_len, v_ext, v_idxA, v_ld, v_st, v_app, v_appN, v_cvs, v_bs1, pBs1, v_slc, v_conv, v_fld, v_fldA, v_new, v_box, v_mks, v_copy, v_isnil, v_nilck, v_pick, ev, evs_nil, evs_cons, fr_get_cons, fr_put_nil, fr_put_cons, fr_put_some, fr_put_none, fr_keep_nil, fr_keep_cons, fr_has_nil, fr_has_cons, Option.bind_some, Option.map_some, xbin, ibin, xresult_eq, xress_nil, xress_tmp, resV, ex_some, if_true, if_false, ite_true, ite_false, reduceIte, reduceCtorEq, Nat.reduceEqDiff, Nat.reduceLT, Nat.reduceLeDiff, Int.reduceLT, Int.reduceLE, Nat.zero_add, Nat.reduceAdd, Bool.false_eq_true, decide_eq_true_eq, decide_eq_false_iff_not, true_implies, false_implies, and_true, true_and]

theorem marks_l0 (n0 : Nat) (s : Value) (rest : List Int) : ∀ (pre acc : List Int) (at0 : Int) (v : Value) (H : AH) (i N : Int) (Q : XExit → Fr → AH → Prop), Ints H s (pre ++ rest) → (∀ b, inB s b → b < n0) → OwnI n0 H v acc → n0 ≤ H.n →
    pre.length + rest.length ≤ 40000 → acc.length ≤ pre.length → Ok rest → 0 ≤ at0 → at0 ≤ 100000 * (pre.length : Int) → i = (pre.length : Int) → N = ((pre ++ rest).length : Int) →
    (∀ v' x H', OwnI n0 H' v' (acc ++ sums at0 rest) → Keep n0 H H' → Q (.exit 0) [(5, v'), (6, x), (14, s), (15, .int .i64 N), (16, .int .i64 N), (17, .bool false)] H') →
    Run Try.prog tab (.loop xflux_Marks_l0) [(5, v), (6, .int .i64 at0), (14, s), (15, .int .i64 N), (16, .int .i64 i)] H Q := by
  induction rest with
  | nil =>
    intro pre acc at0 v H i N Q hs hsb ho hn hl hal hok h0 h1 hi hN hq
    rw [run_loop]
    generalize hL : XCode.loop xflux_Marks_l0 = L
    have hiN : i = N := by simp at hN; omega
    subst hiN
    have hf : ¬ i < i := by omega
    simp only [xflux_Marks_l0, ofArgs, run_seq, run_block, run_ops, run_skip, run_exit, run_ret, thenQ_normal, thenQ_exit, thenQ_ret, blockQ_normal, blockQ_exit, blockQ_ret, retQ_ret, retQ_normal, ops_nil, ops_none, got_some, ops_wT, ops_wTn, ops_wF, ops_wFn, ops_wU, dops_wT, dops_wTn, dops_wF, dops_wFn, dops_wU, run_condT, run_condF, alt2_int, altB_bool, altI_int, altBB_bool, v_min, v_max, v_not, v_neg, optEv_none, optEv_some, isSome'_none, isSome'_some, pExt0, pExt1, pExt2, Bool.false_and, Bool.true_and, Bool.not_true, Bool.not_false, cond_true, cond_false, dops_nil, dops_none, xval_call, v_mov, v_bin, v_len, v_ext, v_idxA, v_ld, v_st, v_app, v_appN, v_cvs, v_bs1, pBs1, v_slc, v_conv, v_fld, v_fldA, v_new, v_box, v_mks, v_copy, v_isnil, v_nilck, v_pick, ev, evs_nil, evs_cons, fr_get_cons, fr_put_nil, fr_put_cons, fr_put_some, fr_put_none, fr_keep_nil, fr_keep_cons, fr_has_nil, fr_has_cons, Option.bind_some, Option.map_some, xbin, ibin, xresult_eq, xress_nil, xress_tmp, resV, ex_some, if_true, if_false, ite_true, ite_false, reduceIte, reduceCtorEq, Nat.reduceEqDiff, Nat.reduceLT, Nat.reduceLeDiff, Int.reduceLT, Int.reduceLE, Nat.zero_add, Nat.reduceAdd, Bool.false_eq_true, decide_eq_true_eq, decide_eq_false_iff_not, true_implies, false_implies, and_true, true_and, hf, decide_false]
    have := hq v (.int .i64 at0) H (by simpa [sums] using ho) (.refl _ _)
    simpa using this
  | cons a rest ih =>
    intro pre acc at0 v H i N Q hs hsb ho hn hl hal hok h0 h1 hi hN hq
    simp only [List.length_cons] at hl
    rw [run_loop]
    generalize hL : XCode.loop xflux_Marks_l0 = L
    have hlt : i < N := by simp at hN; omega
    have ha := hok a (by simp)
    have e1 := ints_idx hs i pre.length hi (by simp)
    have e2 := ints_ld hs pre.length a (by simp)
    have e3 := wrI (at0 + a) (by omega) (by omega)
    have e4 := wrI (i + 1) (by omega) (by omega)
    simp only [xflux_Marks_l0, ofArgs, run_seq, run_block, run_ops, run_skip, run_exit, run_ret, thenQ_normal, thenQ_exit, thenQ_ret, blockQ_normal, blockQ_exit, blockQ_ret, retQ_ret, retQ_normal, ops_nil, ops_none, got_some, ops_wT, ops_wTn, ops_wF, ops_wFn, ops_wU, dops_wT, dops_wTn, dops_wF, dops_wFn, dops_wU, run_condT, run_condF, alt2_int, altB_bool, altI_int, altBB_bool, v_min, v_max, v_not, v_neg, optEv_none, optEv_some, isSome'_none, isSome'_some, pExt0, pExt1, pExt2, Bool.false_and, Bool.true_and, Bool.not_true, Bool.not_false, cond_true, cond_false, dops_nil, dops_none, xval_call, v_mov, v_bin, v_len, v_ext, v_idxA, v_ld, v_st, v_app, v_appN, v_cvs, v_bs1, pBs1, v_slc, v_conv, v_fld, v_fldA, v_new, v_box, v_mks, v_copy, v_isnil, v_nilck, v_pick, ev, evs_nil, evs_cons, fr_get_cons, fr_put_nil, fr_put_cons, fr_put_some, fr_put_none, fr_keep_nil, fr_keep_cons, fr_has_nil, fr_has_cons, Option.bind_some, Option.map_some, xbin, ibin, xresult_eq, xress_nil, xress_tmp, resV, ex_some, if_true, if_false, ite_true, ite_false, reduceIte, reduceCtorEq, Nat.reduceEqDiff, Nat.reduceLT, Nat.reduceLeDiff, Int.reduceLT, Int.reduceLE, Nat.zero_add, Nat.reduceAdd, Bool.false_eq_true, decide_eq_true_eq, decide_eq_false_iff_not, true_implies, false_implies, and_true, true_and, hlt, decide_true, e1, e2, e3, e4]
    refine app_one ho hn (by omega) fun v' H' ho' hs' => ?_
    have hk := hs'.keep ho hn
    subst hL
    refine ih (pre ++ [a]) (acc ++ [at0 + a]) (at0 + a) v' H' (i + 1) N Q (Ints.app1 (Ints.keep hs hk hsb)) hsb ho' (by have := hk.1; omega) (by simp; omega) (by simp; omega) (fun p hp => hok p (by simp [hp])) (by omega) (by simp; omega) (by simp; omega) (by simpa using hN) ?_
    intro v2 x2 H2 ho2 hk2
    exact hq v2 x2 H2 (by simpa [sums] using ho2) (hk.trans hk2)

theorem marks_ok (l : List Int) (s : Value) (H : AH) (Q : Value → AH → Prop) (hs : Ints H s l) (hl : l.length ≤ 40000) (hok : Ok l)
    (hq : ∀ v H', OwnI H.n H' v (sums 0 l) → HExt H H' → Q (.tuple [v, .int .i64 0].toArray) H') : Got (xc Try.prog tab 37 [s] H) Q := by
  refine got_call (res := [.tmp 2, .tmp 3]) rfl ?_
  have e4 := ints_len hs
  have e5 := check_xc l s H hs hl hok
  simp only [ofArgs, run_seq, run_block, run_ops, run_skip, run_exit, run_ret, thenQ_normal, thenQ_exit, thenQ_ret, blockQ_normal, blockQ_exit, blockQ_ret, retQ_ret, retQ_normal, ops_nil, ops_none, got_some, ops_wT, ops_wTn, ops_wF, ops_wFn, ops_wU, dops_wT, dops_wTn, dops_wF, dops_wFn, dops_wU, run_condT, run_condF, alt2_int, altB_bool, altI_int, altBB_bool, v_min, v_max, v_not, v_neg, optEv_none, optEv_some, isSome'_none, isSome'_some, pExt0, pExt1, pExt2, Bool.false_and, Bool.true_and, Bool.not_true, Bool.not_false, cond_true, cond_false, dops_nil, dops_none, xval_call, v_mov, v_bin, v_len, v_ext, v_idxA, v_ld, v_st, v_app, v_appN, v_cvs, v_bs1, pBs1, v_slc, v_conv, v_fld, v_fldA, v_new, v_box, v_mks, v_copy, v_isnil, v_nilck, v_pick, ev, evs_nil, evs_cons, fr_get_cons, fr_put_nil, fr_put_cons, fr_put_some, fr_put_none, fr_keep_nil, fr_keep_cons, fr_has_nil, fr_has_cons, Option.bind_some, Option.map_some, xbin, ibin, xresult_eq, xress_nil, xress_tmp, resV, ex_some, if_true, if_false, ite_true, ite_false, reduceIte, reduceCtorEq, Nat.reduceEqDiff, Nat.reduceLT, Nat.reduceLeDiff, Int.reduceLT, Int.reduceLE, Nat.zero_add, Nat.reduceAdd, Bool.false_eq_true, decide_eq_true_eq, decide_eq_false_iff_not, true_implies, false_implies, and_true, true_and, e4, e5, bne_self_eq_false]
  refine marks_l0 H.n s l [] [] 0 _ H _ _ _ hs (fun b hb => hs.lt b hb) (OwnI.nil _ _) (Nat.le_refl _) (by simpa using hl) (by simp) hok (by omega) (by simp) (by simp) (by simp) ?_
  intro v' x H' h1 h2
  simp only [ofArgs, run_seq, run_block, run_ops, run_skip, run_exit, run_ret, thenQ_normal, thenQ_exit, thenQ_ret, blockQ_normal, blockQ_exit, blockQ_ret, retQ_ret, retQ_normal, ops_nil, ops_none, got_some, ops_wT, ops_wTn, ops_wF, ops_wFn, ops_wU, dops_wT, dops_wTn, dops_wF, dops_wFn, dops_wU, run_condT, run_condF, alt2_int, altB_bool, altI_int, altBB_bool, v_min, v_max, v_not, v_neg, optEv_none, optEv_some, isSome'_none, isSome'_some, pExt0, pExt1, pExt2, Bool.false_and, Bool.true_and, Bool.not_true, Bool.not_false, cond_true, cond_false, dops_nil, dops_none, xval_call, v_mov, v_bin, v_len, v_ext, v_idxA, v_ld, v_st, v_app, v_appN, v_cvs, v_bs1, pBs1, v_slc, v_conv, v_fld, v_fldA, v_new, v_box, v_mks, v_copy, v_isnil, v_nilck, v_pick, ev, evs_nil, evs_cons, fr_get_cons, fr_put_nil, fr_put_cons, fr_put_some, fr_put_none, fr_keep_nil, fr_keep_cons, fr_has_nil, fr_has_cons, Option.bind_some, Option.map_some, xbin, ibin, xresult_eq, xress_nil, xress_tmp, resV, ex_some, if_true, if_false, ite_true, ite_false, reduceIte, reduceCtorEq, Nat.reduceEqDiff, Nat.reduceLT, Nat.reduceLeDiff, Int.reduceLT, Int.reduceLE, Nat.zero_add, Nat.reduceAdd, Bool.false_eq_true, decide_eq_true_eq, decide_eq_false_iff_not, true_implies, false_implies, and_true, true_and]
  exact hq v' H' (by simpa using h1) h2

theorem of_l0 (n0 : Nat) (s : Value) (rest : List Int) : ∀ (pre acc : List Int) (at0 : Int) (v : Value) (H : AH) (i N : Int) (Q : XExit → Fr → AH → Prop), Ints H s (pre ++ rest) → (∀ b, inB s b → b < n0) → OwnI n0 H v acc → n0 ≤ H.n →
    pre.length + rest.length ≤ 40000 → acc.length ≤ pre.length → Ok (difs at0 rest) → 0 ≤ at0 → at0 ≤ 100000 * (pre.length : Int) → i = (pre.length : Int) → N = ((pre ++ rest).length : Int) →
    (∀ v' x H', OwnI n0 H' v' (acc ++ difs at0 rest) → Keep n0 H H' → Q (.exit 0) [(4, v'), (5, x), (11, s), (12, .int .i64 N), (13, .int .i64 N), (14, .bool false)] H') →
    Run Try.prog tab (.loop xflux_Of_l0) [(4, v), (5, .int .i64 at0), (11, s), (12, .int .i64 N), (13, .int .i64 i)] H Q := by
  induction rest with
  | nil =>
    intro pre acc at0 v H i N Q hs hsb ho hn hl hal hok h0 h1 hi hN hq
    rw [run_loop]
    generalize hL : XCode.loop xflux_Of_l0 = L
    have hiN : i = N := by simp at hN; omega
    subst hiN
    have hf : ¬ i < i := by omega
    simp only [xflux_Of_l0, ofArgs, run_seq, run_block, run_ops, run_skip, run_exit, run_ret, thenQ_normal, thenQ_exit, thenQ_ret, blockQ_normal, blockQ_exit, blockQ_ret, retQ_ret, retQ_normal, ops_nil, ops_none, got_some, ops_wT, ops_wTn, ops_wF, ops_wFn, ops_wU, dops_wT, dops_wTn, dops_wF, dops_wFn, dops_wU, run_condT, run_condF, alt2_int, altB_bool, altI_int, altBB_bool, v_min, v_max, v_not, v_neg, optEv_none, optEv_some, isSome'_none, isSome'_some, pExt0, pExt1, pExt2, Bool.false_and, Bool.true_and, Bool.not_true, Bool.not_false, cond_true, cond_false, dops_nil, dops_none, xval_call, v_mov, v_bin, v_len, v_ext, v_idxA, v_ld, v_st, v_app, v_appN, v_cvs, v_bs1, pBs1, v_slc, v_conv, v_fld, v_fldA, v_new, v_box, v_mks, v_copy, v_isnil, v_nilck, v_pick, ev, evs_nil, evs_cons, fr_get_cons, fr_put_nil, fr_put_cons, fr_put_some, fr_put_none, fr_keep_nil, fr_keep_cons, fr_has_nil, fr_has_cons, Option.bind_some, Option.map_some, xbin, ibin, xresult_eq, xress_nil, xress_tmp, resV, ex_some, if_true, if_false, ite_true, ite_false, reduceIte, reduceCtorEq, Nat.reduceEqDiff, Nat.reduceLT, Nat.reduceLeDiff, Int.reduceLT, Int.reduceLE, Nat.zero_add, Nat.reduceAdd, Bool.false_eq_true, decide_eq_true_eq, decide_eq_false_iff_not, true_implies, false_implies, and_true, true_and, hf, decide_false]
    have := hq v (.int .i64 at0) H (by simpa [difs] using ho) (.refl _ _)
    simpa using this
  | cons a rest ih =>
    intro pre acc at0 v H i N Q hs hsb ho hn hl hal hok h0 h1 hi hN hq
    simp only [List.length_cons] at hl
    rw [run_loop]
    generalize hL : XCode.loop xflux_Of_l0 = L
    have hlt : i < N := by simp at hN; omega
    have ha := hok (a - at0) (by simp [difs])
    have e1 := ints_idx hs i pre.length hi (by simp)
    have e2 := ints_ld hs pre.length a (by simp)
    have e3 := wrI (a - at0) (by omega) (by omega)
    have e4 := wrI (i + 1) (by omega) (by omega)
    have c1 : ¬ a ≤ at0 := by omega
    have c2 : ¬ a - at0 > 100000 := by omega
    simp only [xflux_Of_l0, ofArgs, run_seq, run_block, run_ops, run_skip, run_exit, run_ret, thenQ_normal, thenQ_exit, thenQ_ret, blockQ_normal, blockQ_exit, blockQ_ret, retQ_ret, retQ_normal, ops_nil, ops_none, got_some, ops_wT, ops_wTn, ops_wF, ops_wFn, ops_wU, dops_wT, dops_wTn, dops_wF, dops_wFn, dops_wU, run_condT, run_condF, alt2_int, altB_bool, altI_int, altBB_bool, v_min, v_max, v_not, v_neg, optEv_none, optEv_some, isSome'_none, isSome'_some, pExt0, pExt1, pExt2, Bool.false_and, Bool.true_and, Bool.not_true, Bool.not_false, cond_true, cond_false, dops_nil, dops_none, xval_call, v_mov, v_bin, v_len, v_ext, v_idxA, v_ld, v_st, v_app, v_appN, v_cvs, v_bs1, pBs1, v_slc, v_conv, v_fld, v_fldA, v_new, v_box, v_mks, v_copy, v_isnil, v_nilck, v_pick, ev, evs_nil, evs_cons, fr_get_cons, fr_put_nil, fr_put_cons, fr_put_some, fr_put_none, fr_keep_nil, fr_keep_cons, fr_has_nil, fr_has_cons, Option.bind_some, Option.map_some, xbin, ibin, xresult_eq, xress_nil, xress_tmp, resV, ex_some, if_true, if_false, ite_true, ite_false, reduceIte, reduceCtorEq, Nat.reduceEqDiff, Nat.reduceLT, Nat.reduceLeDiff, Int.reduceLT, Int.reduceLE, Nat.zero_add, Nat.reduceAdd, Bool.false_eq_true, decide_eq_true_eq, decide_eq_false_iff_not, true_implies, false_implies, and_true, true_and, hlt, decide_true, e1, e2, e3, e4, c1, c2, decide_false]
    refine app_one ho hn (by omega) fun v' H' ho' hs' => ?_
    have hk := hs'.keep ho hn
    subst hL
    refine ih (pre ++ [a]) (acc ++ [a - at0]) a v' H' (i + 1) N Q (Ints.app1 (Ints.keep hs hk hsb)) hsb ho' (by have := hk.1; omega) (by simp; omega) (by simp; omega) (fun p hp => hok p (by simp [difs, hp])) (by omega) (by simp; omega) (by simp; omega) (by simpa using hN) ?_
    intro v2 x2 H2 ho2 hk2
    exact hq v2 x2 H2 (by simpa [difs] using ho2) (hk.trans hk2)

theorem of_ok (l : List Int) (s : Value) (H : AH) (Q : Value → AH → Prop) (hs : Ints H s l) (hl : l.length ≤ 40000) (hok : Ok (difs 0 l))
    (hq : ∀ v H', OwnI H.n H' v (difs 0 l) → HExt H H' → Q (.tuple [v, .int .i64 0].toArray) H') : Got (xc Try.prog tab 38 [s] H) Q := by
  refine got_call (res := [.tmp 2, .tmp 3]) rfl ?_
  have e4 := ints_len hs
  have c1 : ¬ (l.length : Int) > 40000 := by omega
  simp only [ofArgs, run_seq, run_block, run_ops, run_skip, run_exit, run_ret, thenQ_normal, thenQ_exit, thenQ_ret, blockQ_normal, blockQ_exit, blockQ_ret, retQ_ret, retQ_normal, ops_nil, ops_none, got_some, ops_wT, ops_wTn, ops_wF, ops_wFn, ops_wU, dops_wT, dops_wTn, dops_wF, dops_wFn, dops_wU, run_condT, run_condF, alt2_int, altB_bool, altI_int, altBB_bool, v_min, v_max, v_not, v_neg, optEv_none, optEv_some, isSome'_none, isSome'_some, pExt0, pExt1, pExt2, Bool.false_and, Bool.true_and, Bool.not_true, Bool.not_false, cond_true, cond_false, dops_nil, dops_none, xval_call, v_mov, v_bin, v_len, v_ext, v_idxA, v_ld, v_st, v_app, v_appN, v_cvs, v_bs1, pBs1, v_slc, v_conv, v_fld, v_fldA, v_new, v_box, v_mks, v_copy, v_isnil, v_nilck, v_pick, ev, evs_nil, evs_cons, fr_get_cons, fr_put_nil, fr_put_cons, fr_put_some, fr_put_none, fr_keep_nil, fr_keep_cons, fr_has_nil, fr_has_cons, Option.bind_some, Option.map_some, xbin, ibin, xresult_eq, xress_nil, xress_tmp, resV, ex_some, if_true, if_false, ite_true, ite_false, reduceIte, reduceCtorEq, Nat.reduceEqDiff, Nat.reduceLT, Nat.reduceLeDiff, Int.reduceLT, Int.reduceLE, Nat.zero_add, Nat.reduceAdd, Bool.false_eq_true, decide_eq_true_eq, decide_eq_false_iff_not, true_implies, false_implies, and_true, true_and, e4, c1, decide_false]
  refine of_l0 H.n s l [] [] 0 _ H _ _ _ hs (fun b hb => hs.lt b hb) (OwnI.nil _ _) (Nat.le_refl _) (by simpa using hl) (by simp) hok (by omega) (by simp) (by simp) (by simp) ?_
  intro v' x H' h1 h2
  simp only [ofArgs, run_seq, run_block, run_ops, run_skip, run_exit, run_ret, thenQ_normal, thenQ_exit, thenQ_ret, blockQ_normal, blockQ_exit, blockQ_ret, retQ_ret, retQ_normal, ops_nil, ops_none, got_some, ops_wT, ops_wTn, ops_wF, ops_wFn, ops_wU, dops_wT, dops_wTn, dops_wF, dops_wFn, dops_wU, run_condT, run_condF, alt2_int, altB_bool, altI_int, altBB_bool, v_min, v_max, v_not, v_neg, optEv_none, optEv_some, isSome'_none, isSome'_some, pExt0, pExt1, pExt2, Bool.false_and, Bool.true_and, Bool.not_true, Bool.not_false, cond_true, cond_false, dops_nil, dops_none, xval_call, v_mov, v_bin, v_len, v_ext, v_idxA, v_ld, v_st, v_app, v_appN, v_cvs, v_bs1, pBs1, v_slc, v_conv, v_fld, v_fldA, v_new, v_box, v_mks, v_copy, v_isnil, v_nilck, v_pick, ev, evs_nil, evs_cons, fr_get_cons, fr_put_nil, fr_put_cons, fr_put_some, fr_put_none, fr_keep_nil, fr_keep_cons, fr_has_nil, fr_has_cons, Option.bind_some, Option.map_some, xbin, ibin, xresult_eq, xress_nil, xress_tmp, resV, ex_some, if_true, if_false, ite_true, ite_false, reduceIte, reduceCtorEq, Nat.reduceEqDiff, Nat.reduceLT, Nat.reduceLeDiff, Int.reduceLT, Int.reduceLE, Nat.zero_add, Nat.reduceAdd, Bool.false_eq_true, decide_eq_true_eq, decide_eq_false_iff_not, true_implies, false_implies, and_true, true_and]
  exact hq v' H' (by simpa using h1) h2
end Go.Proofs.Ytkhjmmidaihbhaa.D
