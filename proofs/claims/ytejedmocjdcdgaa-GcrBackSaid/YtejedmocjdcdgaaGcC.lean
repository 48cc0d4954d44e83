/- What functions that the law reaches compute, on a heap of the run's own: the conditions stand in each theorem. -/
import Derived.Test.YtejedmocjdcdgaaGcB
set_option linter.unusedSimpArgs false
set_option linter.unusedVariables false
namespace Go.Proofs.Ytejedmocjdcdgaa.D
open Go Go.Det

/-- bits as ints -/
def b01 (q : List Bool) : List Int := q.map fun b => if b then 1 else 0
theorem b01_app (q r : List Bool) : b01 (q ++ r) = b01 q ++ b01 r := by simp [b01]
theorem b01_len (q : List Bool) : (b01 q).length = q.length := by simp [b01]

theorem appN_ok {n0 : Nat} {H : AH} {v : Value} {acc : List Int} {m : Nat} {Q : Value → AH → Prop} (ho : OwnI n0 H v acc) (hn : n0 ≤ H.n) (hle : acc.length + m ≤ 1000000)
    (hq : ∀ v' H', OwnI n0 H' v' (acc ++ List.replicate m 0) → Stp v H v' H' → Q v' H') : Got (xappN H 1 8 [.int .i64 0] v (.int .i64 (m : Int))) Q := by
  refine xappN_own ho hn rfl ?_ (Nat.le_refl _) (by omega) (by omega) ?_
  · rw [rep_one]
    exact List.all_eq_true.2 fun z hz => by rw [(List.mem_replicate.1 hz).2]; rfl
  intro v' H' o st
  refine hq v' H' ?_ st
  unfold OwnI
  rw [rep_one] at o
  simpa using o
theorem set_ok {n0 : Nat} {H : AH} {v : Value} {l : List Int} {k : Nat} {x : Int} {Q : Value → AH → Prop} (ho : OwnI n0 H v l) (hk : k < l.length) (hq : ∀ H', OwnI n0 H' v (l.set k x) → Stp v H v H' → Q undef H') : Got (pSt 1 (ptrAt v k) (.int .i64 x) H) Q := by
  refine pSt_own ho (by simpa using hk) rfl rfl ?_
  intro H' o s
  refine hq H' ?_ s
  unfold OwnI
  rw [List.length_set, List.map_set]
  exact o

theorem gr_l0 (n0 : Nat) (s : Value) (rest : List Int) : ∀ (pre acc : List Int) (v : Value) (H : AH) (i N : Int) (Q : XExit → Fr → AH → Prop), Ints H s (pre ++ rest) → (∀ b, inB s b → b < n0) → OwnI n0 H v acc → n0 ≤ H.n → (∀ a ∈ rest, 1 ≤ a ∧ a ≤ 3) →
    pre.length + rest.length ≤ 40000 → acc.length + 3 * rest.length ≤ 1000000 → i = (pre.length : Int) → N = ((pre ++ rest).length : Int) →
    (∀ v' H', OwnI n0 H' v' (acc ++ b01 (expand rest)) → Keep n0 H H' → Q (.exit 0) [(8, v'), (29, s), (30, .int .i64 N), (31, .int .i64 N), (32, .bool false)] H') →
    Run Try.prog tab (.loop xgcr_Read_l0) [(8, v), (29, s), (30, .int .i64 N), (31, .int .i64 i)] H Q := by
  induction rest with
  | nil =>
    intro pre acc v H i N Q hs hsb ho hn hP hl hal hi hN hq
    rw [run_loop]
    generalize hL : XCode.loop xgcr_Read_l0 = L
    have hiN : i = N := by simp at hN; omega
    subst hiN
    have hf : ¬ i < i := by omega
    simp only [xgcr_Read_l0, ofArgs, run_seq, run_block, run_ops, run_skip, run_exit, run_ret, thenQ_normal, thenQ_exit, thenQ_ret, blockQ_normal, blockQ_exit, blockQ_ret, retQ_ret, retQ_normal, ops_nil, ops_none, got_some, ops_wT, ops_wTn, ops_wF, ops_wFn, ops_wU, dops_wT, dops_wTn, dops_wF, dops_wFn, dops_wU, run_condT, run_condF, alt2_int, altB_bool, altI_int, altBB_bool, v_min, v_max, v_not, v_neg, optEv_none, optEv_some, isSome'_none, isSome'_some, pExt0, pExt1, pExt2, Bool.false_and, Bool.true_and, Bool.not_true, Bool.not_false, cond_true, cond_false, dops_nil, dops_none, xval_call, v_mov, v_bin, v_len, v_ext, v_idxA, v_ld, v_st, v_app, v_appN, v_cvs, v_bs1, pBs1, v_slc, v_conv, v_fld, v_fldA, v_new, v_box, v_mks, v_copy, v_isnil, v_nilck, v_pick, ev, evs_nil, evs_cons, fr_get_cons, fr_put_nil, fr_put_cons, fr_put_some, fr_put_none, fr_keep_nil, fr_keep_cons, fr_has_nil, fr_has_cons, Option.bind_some, Option.map_some, xbin, ibin, xresult_eq, xress_nil, xress_tmp, resV, ex_some, if_true, if_false, ite_true, ite_false, reduceIte, reduceCtorEq, Nat.reduceEqDiff, Nat.reduceLT, Nat.reduceLeDiff, Int.reduceLT, Int.reduceLE, Nat.zero_add, Nat.reduceAdd, Bool.false_eq_true, decide_eq_true_eq, decide_eq_false_iff_not, true_implies, false_implies, and_true, true_and, hf, decide_false]
    exact hq v H (by simpa [expand, b01] using ho) (.refl _ _)
  | cons a rest ih =>
    intro pre acc v H i N Q hs hsb ho hn hP hl hal hi hN hq
    simp only [List.length_cons] at hl hal
    rw [run_loop]
    generalize hL : XCode.loop xgcr_Read_l0 = L
    have hlt : i < N := by simp at hN; omega
    have ha := hP a (by simp)
    obtain ⟨g, rfl⟩ : ∃ g : Nat, a = (g : Int) := ⟨a.toNat, by omega⟩
    have e1 := ints_idx hs i pre.length hi (by simp)
    have e2 := ints_ld hs pre.length (g : Int) (by simp)
    have e4 := wrI (i + 1) (by omega) (by omega)
    simp only [xgcr_Read_l0, ofArgs, run_seq, run_block, run_ops, run_skip, run_exit, run_ret, thenQ_normal, thenQ_exit, thenQ_ret, blockQ_normal, blockQ_exit, blockQ_ret, retQ_ret, retQ_normal, ops_nil, ops_none, got_some, ops_wT, ops_wTn, ops_wF, ops_wFn, ops_wU, dops_wT, dops_wTn, dops_wF, dops_wFn, dops_wU, run_condT, run_condF, alt2_int, altB_bool, altI_int, altBB_bool, v_min, v_max, v_not, v_neg, optEv_none, optEv_some, isSome'_none, isSome'_some, pExt0, pExt1, pExt2, Bool.false_and, Bool.true_and, Bool.not_true, Bool.not_false, cond_true, cond_false, dops_nil, dops_none, xval_call, v_mov, v_bin, v_len, v_ext, v_idxA, v_ld, v_st, v_app, v_appN, v_cvs, v_bs1, pBs1, v_slc, v_conv, v_fld, v_fldA, v_new, v_box, v_mks, v_copy, v_isnil, v_nilck, v_pick, ev, evs_nil, evs_cons, fr_get_cons, fr_put_nil, fr_put_cons, fr_put_some, fr_put_none, fr_keep_nil, fr_keep_cons, fr_has_nil, fr_has_cons, Option.bind_some, Option.map_some, xbin, ibin, xresult_eq, xress_nil, xress_tmp, resV, ex_some, if_true, if_false, ite_true, ite_false, reduceIte, reduceCtorEq, Nat.reduceEqDiff, Nat.reduceLT, Nat.reduceLeDiff, Int.reduceLT, Int.reduceLE, Nat.zero_add, Nat.reduceAdd, Bool.false_eq_true, decide_eq_true_eq, decide_eq_false_iff_not, true_implies, false_implies, and_true, true_and, hlt, decide_true, e1, e2]
    refine appN_ok ho hn (by omega) ?_
    intro v1 H1 o1 st1
    have k1 := st1.keep ho hn
    have e3 := ints_len o1.ints
    have hlen : (acc ++ List.replicate g (0 : Int)).length = acc.length + g := by simp
    rw [hlen] at e3
    have w1 : IntKind.i64.wrap (((acc.length + g : Nat) : Int) - 1) = ((acc.length + g - 1 : Nat) : Int) := by rw [wrI _ (by omega) (by omega)]; omega
    have e5 := ints_idx o1.ints ((acc.length + g - 1 : Nat) : Int) (acc.length + g - 1) rfl (by omega)
    simp only [ofArgs, run_seq, run_block, run_ops, run_skip, run_exit, run_ret, thenQ_normal, thenQ_exit, thenQ_ret, blockQ_normal, blockQ_exit, blockQ_ret, retQ_ret, retQ_normal, ops_nil, ops_none, got_some, ops_wT, ops_wTn, ops_wF, ops_wFn, ops_wU, dops_wT, dops_wTn, dops_wF, dops_wFn, dops_wU, run_condT, run_condF, alt2_int, altB_bool, altI_int, altBB_bool, v_min, v_max, v_not, v_neg, optEv_none, optEv_some, isSome'_none, isSome'_some, pExt0, pExt1, pExt2, Bool.false_and, Bool.true_and, Bool.not_true, Bool.not_false, cond_true, cond_false, dops_nil, dops_none, xval_call, v_mov, v_bin, v_len, v_ext, v_idxA, v_ld, v_st, v_app, v_appN, v_cvs, v_bs1, pBs1, v_slc, v_conv, v_fld, v_fldA, v_new, v_box, v_mks, v_copy, v_isnil, v_nilck, v_pick, ev, evs_nil, evs_cons, fr_get_cons, fr_put_nil, fr_put_cons, fr_put_some, fr_put_none, fr_keep_nil, fr_keep_cons, fr_has_nil, fr_has_cons, Option.bind_some, Option.map_some, xbin, ibin, xresult_eq, xress_nil, xress_tmp, resV, ex_some, if_true, if_false, ite_true, ite_false, reduceIte, reduceCtorEq, Nat.reduceEqDiff, Nat.reduceLT, Nat.reduceLeDiff, Int.reduceLT, Int.reduceLE, Nat.zero_add, Nat.reduceAdd, Bool.false_eq_true, decide_eq_true_eq, decide_eq_false_iff_not, true_implies, false_implies, and_true, true_and, e3, w1, e5]
    refine set_ok o1 (by omega) ?_
    intro H2 o2 st2
    have k2 := st2.keep o1 (by have := k1.1; omega)
    have hset : (acc ++ List.replicate g (0 : Int)).set (acc.length + g - 1) 1 = acc ++ (b01 (List.replicate (g - 1) false ++ [true])) := by
      rw [List.set_append_right _ _ (by omega)]
      congr 1
      obtain ⟨g', rfl⟩ : ∃ g', g = g' + 1 := ⟨g - 1, by omega⟩
      rw [show acc.length + (g' + 1) - 1 - acc.length = g' by omega, show g' + 1 - 1 = g' by omega, List.replicate_succ', List.set_append_right _ _ (by simp)]
      simp [b01]
    rw [hset] at o2
    simp only [ofArgs, run_seq, run_block, run_ops, run_skip, run_exit, run_ret, thenQ_normal, thenQ_exit, thenQ_ret, blockQ_normal, blockQ_exit, blockQ_ret, retQ_ret, retQ_normal, ops_nil, ops_none, got_some, ops_wT, ops_wTn, ops_wF, ops_wFn, ops_wU, dops_wT, dops_wTn, dops_wF, dops_wFn, dops_wU, run_condT, run_condF, alt2_int, altB_bool, altI_int, altBB_bool, v_min, v_max, v_not, v_neg, optEv_none, optEv_some, isSome'_none, isSome'_some, pExt0, pExt1, pExt2, Bool.false_and, Bool.true_and, Bool.not_true, Bool.not_false, cond_true, cond_false, dops_nil, dops_none, xval_call, v_mov, v_bin, v_len, v_ext, v_idxA, v_ld, v_st, v_app, v_appN, v_cvs, v_bs1, pBs1, v_slc, v_conv, v_fld, v_fldA, v_new, v_box, v_mks, v_copy, v_isnil, v_nilck, v_pick, ev, evs_nil, evs_cons, fr_get_cons, fr_put_nil, fr_put_cons, fr_put_some, fr_put_none, fr_keep_nil, fr_keep_cons, fr_has_nil, fr_has_cons, Option.bind_some, Option.map_some, xbin, ibin, xresult_eq, xress_nil, xress_tmp, resV, ex_some, if_true, if_false, ite_true, ite_false, reduceIte, reduceCtorEq, Nat.reduceEqDiff, Nat.reduceLT, Nat.reduceLeDiff, Int.reduceLT, Int.reduceLE, Nat.zero_add, Nat.reduceAdd, Bool.false_eq_true, decide_eq_true_eq, decide_eq_false_iff_not, true_implies, false_implies, and_true, true_and, e4]
    subst hL
    have k12 := k1.trans k2
    refine ih (pre ++ [(g : Int)]) (acc ++ b01 (List.replicate (g - 1) false ++ [true])) v1 H2 (i + 1) N Q ((Ints.keep hs k12 hsb).app1) hsb o2 (by have := k12.1; omega) (fun p hp => hP p (by simp [hp])) (by simp; omega) (by simp [b01]; omega) (by simp; omega) (by simpa using hN) ?_
    intro v3 H3 o3 k3
    refine hq v3 H3 ?_ (k12.trans k3)
    have : acc ++ b01 (expand ((g : Int) :: rest)) = acc ++ b01 (List.replicate (g - 1) false ++ [true]) ++ b01 (expand rest) := by
      simp [expand, b01]
    rw [this]; exact o3

/-- five bits make a number -/
def val5 (l : List Int) (g : Int) : Int := l.foldl (fun g x => g * 2 + x) g
theorem gr_l1 (v8 v11 v12 s : Value) (i13 c14 k15 : Int) (H : AH) (rest : List Int) : ∀ (pre : List Int) (g i N : Int) (Q : XExit → Fr → AH → Prop), Ints H s (pre ++ rest) → (∀ x ∈ rest, 0 ≤ x ∧ x ≤ 1) → 0 ≤ g → rest.length ≤ 10 → g < ((2 ^ (10 - rest.length) : Nat) : Int) → pre.length + rest.length ≤ 10 → i = (pre.length : Int) → N = ((pre ++ rest).length : Int) →
    Q (.exit 6) [(8, v8), (11, v11), (12, v12), (13, .int .i64 i13), (14, .int .i64 c14), (15, .int .i64 k15), (16, .int .i64 (val5 rest g)), (77, s), (78, .int .i64 N), (79, .int .i64 N), (80, .bool false)] H →
    Run Try.prog tab (.loop xgcr_Read_l1) [(8, v8), (11, v11), (12, v12), (13, .int .i64 i13), (14, .int .i64 c14), (15, .int .i64 k15), (16, .int .i64 g), (77, s), (78, .int .i64 N), (79, .int .i64 i)] H Q := by
  induction rest with
  | nil =>
    intro pre g i N Q hs hx hg hl5 hgl hl hi hN hq
    rw [run_loop]
    generalize hL : XCode.loop xgcr_Read_l1 = L
    have hiN : i = N := by simp at hN; omega
    subst hiN
    have hf : ¬ i < i := by omega
    simp only [xgcr_Read_l1, ofArgs, run_seq, run_block, run_ops, run_skip, run_exit, run_ret, thenQ_normal, thenQ_exit, thenQ_ret, blockQ_normal, blockQ_exit, blockQ_ret, retQ_ret, retQ_normal, ops_nil, ops_none, got_some, ops_wT, ops_wTn, ops_wF, ops_wFn, ops_wU, dops_wT, dops_wTn, dops_wF, dops_wFn, dops_wU, run_condT, run_condF, alt2_int, altB_bool, altI_int, altBB_bool, v_min, v_max, v_not, v_neg, optEv_none, optEv_some, isSome'_none, isSome'_some, pExt0, pExt1, pExt2, Bool.false_and, Bool.true_and, Bool.not_true, Bool.not_false, cond_true, cond_false, dops_nil, dops_none, xval_call, v_mov, v_bin, v_len, v_ext, v_idxA, v_ld, v_st, v_app, v_appN, v_cvs, v_bs1, pBs1, v_slc, v_conv, v_fld, v_fldA, v_new, v_box, v_mks, v_copy, v_isnil, v_nilck, v_pick, ev, evs_nil, evs_cons, fr_get_cons, fr_put_nil, fr_put_cons, fr_put_some, fr_put_none, fr_keep_nil, fr_keep_cons, fr_has_nil, fr_has_cons, Option.bind_some, Option.map_some, xbin, ibin, xresult_eq, xress_nil, xress_tmp, resV, ex_some, if_true, if_false, ite_true, ite_false, reduceIte, reduceCtorEq, Nat.reduceEqDiff, Nat.reduceLT, Nat.reduceLeDiff, Int.reduceLT, Int.reduceLE, Nat.zero_add, Nat.reduceAdd, Bool.false_eq_true, decide_eq_true_eq, decide_eq_false_iff_not, true_implies, false_implies, and_true, true_and, hf, decide_false]
    exact hq
  | cons a rest ih =>
    intro pre g i N Q hs hx hg hl5 hgl hl hi hN hq
    simp only [List.length_cons] at hl hl5 hgl
    rw [run_loop]
    generalize hL : XCode.loop xgcr_Read_l1 = L
    have hlt : i < N := by simp at hN; omega
    have ha := hx a (by simp)
    have hp : 2 ^ (10 - rest.length) = 2 ^ (10 - (rest.length + 1)) * 2 := by rw [← Nat.pow_succ]; congr 1; omega
    have hp2 : 2 ^ (10 - (rest.length + 1)) ≤ 2 ^ 10 := Nat.pow_le_pow_right (by omega) (by omega)
    have e1 := ints_idx hs i pre.length hi (by simp)
    have e2 := ints_ld hs pre.length a (by simp)
    have e4 := wrI (i + 1) (by omega) (by omega)
    have w1 := wrI (g * 2) (by omega) (by omega)
    have w2 := wrI (g * 2 + a) (by omega) (by omega)
    simp only [xgcr_Read_l1, ofArgs, run_seq, run_block, run_ops, run_skip, run_exit, run_ret, thenQ_normal, thenQ_exit, thenQ_ret, blockQ_normal, blockQ_exit, blockQ_ret, retQ_ret, retQ_normal, ops_nil, ops_none, got_some, ops_wT, ops_wTn, ops_wF, ops_wFn, ops_wU, dops_wT, dops_wTn, dops_wF, dops_wFn, dops_wU, run_condT, run_condF, alt2_int, altB_bool, altI_int, altBB_bool, v_min, v_max, v_not, v_neg, optEv_none, optEv_some, isSome'_none, isSome'_some, pExt0, pExt1, pExt2, Bool.false_and, Bool.true_and, Bool.not_true, Bool.not_false, cond_true, cond_false, dops_nil, dops_none, xval_call, v_mov, v_bin, v_len, v_ext, v_idxA, v_ld, v_st, v_app, v_appN, v_cvs, v_bs1, pBs1, v_slc, v_conv, v_fld, v_fldA, v_new, v_box, v_mks, v_copy, v_isnil, v_nilck, v_pick, ev, evs_nil, evs_cons, fr_get_cons, fr_put_nil, fr_put_cons, fr_put_some, fr_put_none, fr_keep_nil, fr_keep_cons, fr_has_nil, fr_has_cons, Option.bind_some, Option.map_some, xbin, ibin, xresult_eq, xress_nil, xress_tmp, resV, ex_some, if_true, if_false, ite_true, ite_false, reduceIte, reduceCtorEq, Nat.reduceEqDiff, Nat.reduceLT, Nat.reduceLeDiff, Int.reduceLT, Int.reduceLE, Nat.zero_add, Nat.reduceAdd, Bool.false_eq_true, decide_eq_true_eq, decide_eq_false_iff_not, true_implies, false_implies, and_true, true_and, hlt, decide_true, e1, e2, e4, w1, w2]
    subst hL
    exact ih (pre ++ [a]) (g * 2 + a) (i + 1) N Q hs.app1 (fun x h => hx x (by simp [h])) (by omega) (by omega) (by rw [hp]; omega) (by simp; omega) (by simp; omega) (by simpa using hN) hq

/-! ### a number is looked for -/
def idxOf (g : Int) : Nat → List Int → Int
  | _, [] => -1
  | k, x :: r => if g = x then (k : Int) else idxOf g (k + 1) r
theorem index_l0 (s : Value) (g : Int) (H : AH) (rest : List Int) : ∀ (pre : List Int) (i N : Int) (Q : XExit → Fr → AH → Prop), Ints H s (pre ++ rest) → pre.length + rest.length ≤ 1000 → i = (pre.length : Int) → N = ((pre ++ rest).length : Int) →
    (idxOf g pre.length rest ≠ -1 → Q .ret [(4, .int .i64 (idxOf g pre.length rest))] H) → (idxOf g pre.length rest = -1 → Q (.exit 0) [(0, s), (1, .int .i64 g), (7, .int .i64 N), (8, .int .i64 N), (9, .bool false)] H) →
    Run Try.prog tab (.loop xslices_Index_Sint_int_l0) [(0, s), (1, .int .i64 g), (7, .int .i64 N), (8, .int .i64 i)] H Q := by
  induction rest with
  | nil =>
    intro pre i N Q hs hl hi hN hq hq2
    rw [run_loop]
    generalize hL : XCode.loop xslices_Index_Sint_int_l0 = L
    have hiN : i = N := by simp at hN; omega
    subst hiN
    have hf : ¬ i < i := by omega
    simp only [xslices_Index_Sint_int_l0, ofArgs, run_seq, run_block, run_ops, run_skip, run_exit, run_ret, thenQ_normal, thenQ_exit, thenQ_ret, blockQ_normal, blockQ_exit, blockQ_ret, retQ_ret, retQ_normal, ops_nil, ops_none, got_some, ops_wT, ops_wTn, ops_wF, ops_wFn, ops_wU, dops_wT, dops_wTn, dops_wF, dops_wFn, dops_wU, run_condT, run_condF, alt2_int, altB_bool, altI_int, altBB_bool, v_min, v_max, v_not, v_neg, optEv_none, optEv_some, isSome'_none, isSome'_some, pExt0, pExt1, pExt2, Bool.false_and, Bool.true_and, Bool.not_true, Bool.not_false, cond_true, cond_false, dops_nil, dops_none, xval_call, v_mov, v_bin, v_len, v_ext, v_idxA, v_ld, v_st, v_app, v_appN, v_cvs, v_bs1, pBs1, v_slc, v_conv, v_fld, v_fldA, v_new, v_box, v_mks, v_copy, v_isnil, v_nilck, v_pick, ev, evs_nil, evs_cons, fr_get_cons, fr_put_nil, fr_put_cons, fr_put_some, fr_put_none, fr_keep_nil, fr_keep_cons, fr_has_nil, fr_has_cons, Option.bind_some, Option.map_some, xbin, ibin, xresult_eq, xress_nil, xress_tmp, resV, ex_some, if_true, if_false, ite_true, ite_false, reduceIte, reduceCtorEq, Nat.reduceEqDiff, Nat.reduceLT, Nat.reduceLeDiff, Int.reduceLT, Int.reduceLE, Nat.zero_add, Nat.reduceAdd, Bool.false_eq_true, decide_eq_true_eq, decide_eq_false_iff_not, true_implies, false_implies, and_true, true_and, hf, decide_false]
    exact hq2 rfl
  | cons a rest ih =>
    intro pre i N Q hs hl hi hN hq hq2
    simp only [List.length_cons] at hl
    have hlt : i < N := by simp at hN; omega
    have e1 := ints_idx hs i pre.length hi (by simp)
    have e2 := ints_ld hs pre.length a (by simp)
    have e4 := wrI (i + 1) (by omega) (by omega)
    have ih' := ih (pre ++ [a]) (i + 1) N Q hs.app1 (by simp; omega) (by simp; omega) (by simpa using hN)
    rw [run_loop]
    generalize hL : XCode.loop xslices_Index_Sint_int_l0 = L
    rw [hL] at ih'
    by_cases hg : g = a
    · have c1 : (g == a) = true := by simpa using hg
      have hv : idxOf g pre.length (a :: rest) = (pre.length : Int) := by simp [idxOf, hg]
      have hh := hq (by rw [hv]; omega)
      rw [hv, ← hi] at hh
      simp only [xslices_Index_Sint_int_l0, ofArgs, run_seq, run_block, run_ops, run_skip, run_exit, run_ret, thenQ_normal, thenQ_exit, thenQ_ret, blockQ_normal, blockQ_exit, blockQ_ret, retQ_ret, retQ_normal, ops_nil, ops_none, got_some, ops_wT, ops_wTn, ops_wF, ops_wFn, ops_wU, dops_wT, dops_wTn, dops_wF, dops_wFn, dops_wU, run_condT, run_condF, alt2_int, altB_bool, altI_int, altBB_bool, v_min, v_max, v_not, v_neg, optEv_none, optEv_some, isSome'_none, isSome'_some, pExt0, pExt1, pExt2, Bool.false_and, Bool.true_and, Bool.not_true, Bool.not_false, cond_true, cond_false, dops_nil, dops_none, xval_call, v_mov, v_bin, v_len, v_ext, v_idxA, v_ld, v_st, v_app, v_appN, v_cvs, v_bs1, pBs1, v_slc, v_conv, v_fld, v_fldA, v_new, v_box, v_mks, v_copy, v_isnil, v_nilck, v_pick, ev, evs_nil, evs_cons, fr_get_cons, fr_put_nil, fr_put_cons, fr_put_some, fr_put_none, fr_keep_nil, fr_keep_cons, fr_has_nil, fr_has_cons, Option.bind_some, Option.map_some, xbin, ibin, xresult_eq, xress_nil, xress_tmp, resV, ex_some, if_true, if_false, ite_true, ite_false, reduceIte, reduceCtorEq, Nat.reduceEqDiff, Nat.reduceLT, Nat.reduceLeDiff, Int.reduceLT, Int.reduceLE, Nat.zero_add, Nat.reduceAdd, Bool.false_eq_true, decide_eq_true_eq, decide_eq_false_iff_not, true_implies, false_implies, and_true, true_and, hlt, decide_true, e1, e2, c1]
      exact hh
    · have c1 : (g == a) = false := by simpa using hg
      have hv : idxOf g pre.length (a :: rest) = idxOf g (pre ++ [a]).length rest := by simp [idxOf, hg]
      rw [hv] at hq hq2
      simp only [xslices_Index_Sint_int_l0, ofArgs, run_seq, run_block, run_ops, run_skip, run_exit, run_ret, thenQ_normal, thenQ_exit, thenQ_ret, blockQ_normal, blockQ_exit, blockQ_ret, retQ_ret, retQ_normal, ops_nil, ops_none, got_some, ops_wT, ops_wTn, ops_wF, ops_wFn, ops_wU, dops_wT, dops_wTn, dops_wF, dops_wFn, dops_wU, run_condT, run_condF, alt2_int, altB_bool, altI_int, altBB_bool, v_min, v_max, v_not, v_neg, optEv_none, optEv_some, isSome'_none, isSome'_some, pExt0, pExt1, pExt2, Bool.false_and, Bool.true_and, Bool.not_true, Bool.not_false, cond_true, cond_false, dops_nil, dops_none, xval_call, v_mov, v_bin, v_len, v_ext, v_idxA, v_ld, v_st, v_app, v_appN, v_cvs, v_bs1, pBs1, v_slc, v_conv, v_fld, v_fldA, v_new, v_box, v_mks, v_copy, v_isnil, v_nilck, v_pick, ev, evs_nil, evs_cons, fr_get_cons, fr_put_nil, fr_put_cons, fr_put_some, fr_put_none, fr_keep_nil, fr_keep_cons, fr_has_nil, fr_has_cons, Option.bind_some, Option.map_some, xbin, ibin, xresult_eq, xress_nil, xress_tmp, resV, ex_some, if_true, if_false, ite_true, ite_false, reduceIte, reduceCtorEq, Nat.reduceEqDiff, Nat.reduceLT, Nat.reduceLeDiff, Int.reduceLT, Int.reduceLE, Nat.zero_add, Nat.reduceAdd, Bool.false_eq_true, decide_eq_true_eq, decide_eq_false_iff_not, true_implies, false_implies, and_true, true_and, hlt, decide_true, e1, e2, c1, e4]
      exact ih' hq hq2
theorem index_xc (s : Value) (l : List Int) (g : Int) (H : AH) (hs : Ints H s l) (hl : l.length ≤ 1000) : xc Try.prog tab 64 [s, .int .i64 g] H = some (.int .i64 (idxOf g 0 l), H) := by
  refine got_xc (got_call (res := [.tmp 4]) rfl ?_)
  have e1 := ints_len hs
  simp only [ofArgs, run_seq, run_block, run_ops, run_skip, run_exit, run_ret, thenQ_normal, thenQ_exit, thenQ_ret, blockQ_normal, blockQ_exit, blockQ_ret, retQ_ret, retQ_normal, ops_nil, ops_none, got_some, ops_wT, ops_wTn, ops_wF, ops_wFn, ops_wU, dops_wT, dops_wTn, dops_wF, dops_wFn, dops_wU, run_condT, run_condF, alt2_int, altB_bool, altI_int, altBB_bool, v_min, v_max, v_not, v_neg, optEv_none, optEv_some, isSome'_none, isSome'_some, pExt0, pExt1, pExt2, Bool.false_and, Bool.true_and, Bool.not_true, Bool.not_false, cond_true, cond_false, dops_nil, dops_none, xval_call, v_mov, v_bin, v_len, v_ext, v_idxA, v_ld, v_st, v_app, v_appN, v_cvs, v_bs1, pBs1, v_slc, v_conv, v_fld, v_fldA, v_new, v_box, v_mks, v_copy, v_isnil, v_nilck, v_pick, ev, evs_nil, evs_cons, fr_get_cons, fr_put_nil, fr_put_cons, fr_put_some, fr_put_none, fr_keep_nil, fr_keep_cons, fr_has_nil, fr_has_cons, Option.bind_some, Option.map_some, xbin, ibin, xresult_eq, xress_nil, xress_tmp, resV, ex_some, if_true, if_false, ite_true, ite_false, reduceIte, reduceCtorEq, Nat.reduceEqDiff, Nat.reduceLT, Nat.reduceLeDiff, Int.reduceLT, Int.reduceLE, Nat.zero_add, Nat.reduceAdd, Bool.false_eq_true, decide_eq_true_eq, decide_eq_false_iff_not, true_implies, false_implies, and_true, true_and, e1]
  refine index_l0 s g H l [] 0 _ _ hs (by simpa using hl) (by simp) (by simp) ?_ ?_
  · intro h
    simp only [ofArgs, run_seq, run_block, run_ops, run_skip, run_exit, run_ret, thenQ_normal, thenQ_exit, thenQ_ret, blockQ_normal, blockQ_exit, blockQ_ret, retQ_ret, retQ_normal, ops_nil, ops_none, got_some, ops_wT, ops_wTn, ops_wF, ops_wFn, ops_wU, dops_wT, dops_wTn, dops_wF, dops_wFn, dops_wU, run_condT, run_condF, alt2_int, altB_bool, altI_int, altBB_bool, v_min, v_max, v_not, v_neg, optEv_none, optEv_some, isSome'_none, isSome'_some, pExt0, pExt1, pExt2, Bool.false_and, Bool.true_and, Bool.not_true, Bool.not_false, cond_true, cond_false, dops_nil, dops_none, xval_call, v_mov, v_bin, v_len, v_ext, v_idxA, v_ld, v_st, v_app, v_appN, v_cvs, v_bs1, pBs1, v_slc, v_conv, v_fld, v_fldA, v_new, v_box, v_mks, v_copy, v_isnil, v_nilck, v_pick, ev, evs_nil, evs_cons, fr_get_cons, fr_put_nil, fr_put_cons, fr_put_some, fr_put_none, fr_keep_nil, fr_keep_cons, fr_has_nil, fr_has_cons, Option.bind_some, Option.map_some, xbin, ibin, xresult_eq, xress_nil, xress_tmp, resV, ex_some, if_true, if_false, ite_true, ite_false, reduceIte, reduceCtorEq, Nat.reduceEqDiff, Nat.reduceLT, Nat.reduceLeDiff, Int.reduceLT, Int.reduceLE, Nat.zero_add, Nat.reduceAdd, Bool.false_eq_true, decide_eq_true_eq, decide_eq_false_iff_not, true_implies, false_implies, and_true, true_and]
    rfl
  · intro h
    have h' : idxOf g 0 l = -1 := h
    simp only [ofArgs, run_seq, run_block, run_ops, run_skip, run_exit, run_ret, thenQ_normal, thenQ_exit, thenQ_ret, blockQ_normal, blockQ_exit, blockQ_ret, retQ_ret, retQ_normal, ops_nil, ops_none, got_some, ops_wT, ops_wTn, ops_wF, ops_wFn, ops_wU, dops_wT, dops_wTn, dops_wF, dops_wFn, dops_wU, run_condT, run_condF, alt2_int, altB_bool, altI_int, altBB_bool, v_min, v_max, v_not, v_neg, optEv_none, optEv_some, isSome'_none, isSome'_some, pExt0, pExt1, pExt2, Bool.false_and, Bool.true_and, Bool.not_true, Bool.not_false, cond_true, cond_false, dops_nil, dops_none, xval_call, v_mov, v_bin, v_len, v_ext, v_idxA, v_ld, v_st, v_app, v_appN, v_cvs, v_bs1, pBs1, v_slc, v_conv, v_fld, v_fldA, v_new, v_box, v_mks, v_copy, v_isnil, v_nilck, v_pick, ev, evs_nil, evs_cons, fr_get_cons, fr_put_nil, fr_put_cons, fr_put_some, fr_put_none, fr_keep_nil, fr_keep_cons, fr_has_nil, fr_has_cons, Option.bind_some, Option.map_some, xbin, ibin, xresult_eq, xress_nil, xress_tmp, resV, ex_some, if_true, if_false, ite_true, ite_false, reduceIte, reduceCtorEq, Nat.reduceEqDiff, Nat.reduceLT, Nat.reduceLeDiff, Int.reduceLT, Int.reduceLE, Nat.zero_add, Nat.reduceAdd, Bool.false_eq_true, decide_eq_true_eq, decide_eq_false_iff_not, true_implies, false_implies, and_true, true_and]
    rw [h']
theorem idx_code (i : Nat) (h : i < 16) : idxOf (codeAt i : Int) 0 CODES = (i : Int) := by
  revert i; decide
theorem val_code (i : Nat) (h : i < 16) : val5 (b01 (gbits (codeAt i) 5)) 0 = (codeAt i : Int) := by
  revert i; decide
theorem grp_split (c : Nat) (hc : c < 256) : gbits (grp c) 10 = gbits (codeAt (c / 16)) 5 ++ gbits (codeAt (c % 16)) 5 := by
  revert c; decide +kernel
end Go.Proofs.Ytejedmocjdcdgaa.D
