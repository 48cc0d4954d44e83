/- What functions that the law reaches compute, on a heap of the run's own: the conditions stand in each theorem. -/
import Derived.Test.YtejedmocjdcdgaaFmB
import Derived.Test.YtejedmocjdcdgaaDet25
set_option linter.unusedSimpArgs false
set_option linter.unusedVariables false
namespace Go.Proofs.Ytejedmocjdcdgaa.D
open Go Go.Det

theorem st3_0 {H : AH} {B : Nat} {a b c a' : Value} (h : H.get B = some ⟨[a, b, c], 1, false, false⟩) (h1 : one a' = true) (h2 : vcells a' = [a']) : pSt 1 (.pointer (some ⟨B, 0, none⟩)) a' H = some (undef, H.set B ⟨[a', b, c], 1, false, false⟩) := by
  unfold pSt
  simp only [h, Option.bind_some, h2, List.all_cons, List.all_nil, h1]
  rfl
theorem st3_1 {H : AH} {B : Nat} {a b c b' : Value} (h : H.get B = some ⟨[a, b, c], 1, false, false⟩) (h1 : one b' = true) (h2 : vcells b' = [b']) : pSt 1 (.pointer (some ⟨B, 1, none⟩)) b' H = some (undef, H.set B ⟨[a, b', c], 1, false, false⟩) := by
  unfold pSt
  simp only [h, Option.bind_some, h2, List.all_cons, List.all_nil, h1]
  rfl

/-! ### places and the lengths between changes -/
theorem snoc_ind {P : List Bool → Prop} (h0 : P []) (h1 : ∀ q b, P q → P (q ++ [b])) (q : List Bool) : P q := by
  have key : ∀ r : List Bool, P r.reverse := by
    intro r
    induction r with
    | nil => exact h0
    | cons b r ih => rw [List.reverse_cons]; exact h1 _ _ ih
  have := key q.reverse
  rwa [List.reverse_reverse] at this
def plc (s : List Int × Nat) (b : Bool) : List Int × Nat := if b then (s.1 ++ [((s.2 + 1 : Nat) : Int)], 0) else (s.1, s.2 + 1)
def gaps (q : List Bool) : List Int × Nat := q.foldl plc ([], 0)
theorem gaps_snoc (q : List Bool) (b : Bool) : gaps (q ++ [b]) = plc (gaps q) b := by unfold gaps; rw [List.foldl_append]; rfl
theorem gaps_len (q : List Bool) : (gaps q).1.length ≤ q.length ∧ (gaps q).2 ≤ q.length := by
  refine snoc_ind (P := fun q => (gaps q).1.length ≤ q.length ∧ (gaps q).2 ≤ q.length) (by simp [gaps]) (fun q b ih => ?_) q
  rw [gaps_snoc, List.length_append]
  unfold plc
  split <;> simp <;> omega
def expand : List Int → List Bool
  | [] => []
  | g :: l => List.replicate (g.toNat - 1) false ++ true :: expand l
theorem expand_app (l m : List Int) : expand (l ++ m) = expand l ++ expand m := by
  induction l with
  | nil => rfl
  | cons g l ih => simp [expand, ih]
theorem expand_gaps (q : List Bool) : expand (gaps q).1 ++ List.replicate (gaps q).2 false = q := by
  refine snoc_ind (P := fun q => expand (gaps q).1 ++ List.replicate (gaps q).2 false = q) rfl (fun q b ih => ?_) q
  rw [gaps_snoc]
  unfold plc
  cases b with
  | true =>
    simp only [if_true]
    rw [expand_app]
    conv => rhs; rw [← ih]
    simp [expand]
  | false =>
    simp only [Bool.false_eq_true, if_false]
    conv => rhs; rw [← ih]
    rw [List.replicate_succ', List.append_assoc]
theorem gaps_pos (q : List Bool) : ∀ g ∈ (gaps q).1, 1 ≤ g := by
  refine snoc_ind (P := fun q => ∀ g ∈ (gaps q).1, 1 ≤ g) (by simp [gaps]) (fun q b ih => ?_) q
  intro g h
  rw [gaps_snoc] at h
  unfold plc at h
  split at h
  · rcases List.mem_append.1 h with h | h
    · exact ih g h
    · simp at h; omega
  · exact ih g h

/-- the bits of a byte, each with its clock -/
def msym (c : Nat) (mark : Bool) : Nat → Bool → List Bool
  | 0, _ => []
  | r + 1, last => (!(c.testBit r) && !last && !(mark && decide (r = 2))) :: c.testBit r :: msym c mark r (c.testBit r)
theorem msym_len (c : Nat) (mark : Bool) (r : Nat) : ∀ last, (msym c mark r last).length = 2 * r := by
  induction r with
  | zero => intro last; rfl
  | succ r ih => intro last; simp [msym, ih]; omega

/-- a writer -/
def Wr (n0 : Nat) (H : AH) (W : Nat) (q : List Bool) (last : Bool) : Prop :=
  W < n0 ∧ n0 ≤ H.n ∧ ∃ vl, H.get W = some ⟨[vl, .int .i64 ((gaps q).2 : Nat), .bool last], 1, false, false⟩ ∧ OwnI n0 H vl (gaps q).1
/-- all up to n0 is there, but for one block -/
def KeepB (n0 W : Nat) (H H' : AH) : Prop := H.n ≤ H'.n ∧ ∀ b, b < n0 → b ≠ W → H'.get b = H.get b
theorem KeepB.refl (n0 W : Nat) (H : AH) : KeepB n0 W H H := ⟨Nat.le_refl _, fun _ _ _ => rfl⟩
theorem KeepB.trans {n0 W : Nat} {A B C : AH} (h : KeepB n0 W A B) (k : KeepB n0 W B C) : KeepB n0 W A C := ⟨Nat.le_trans h.1 k.1, fun b hb hw => (k.2 b hb hw).trans (h.2 b hb hw)⟩

theorem kset (n0 W : Nat) (H : AH) (blk : Blk) : KeepB n0 W H (H.set W blk) := ⟨Nat.le_refl _, fun b _ hb => by rw [AH.get_set, if_neg hb]⟩
theorem place_w (n0 : Nat) (H : AH) (W : Nat) (q : List Bool) (last b : Bool) (Q : Value → AH → Prop) (hw : Wr n0 H W q last) (hq2 : q.length ≤ 100000) (hq : ∀ H', Wr n0 H' W (q ++ [b]) last → KeepB n0 W H H' → Q (.tuple #[]) H') :
    Got (xc Try.prog tab 77 [.pointer (some ⟨W, 0, none⟩), .bool b] H) Q := by
  refine got_call (res := []) rfl ?_
  obtain ⟨hW, hn, vl, hg, ho⟩ := hw
  have hgl := gaps_len q
  have e1 := ld3_1 hg
  have w1 := wrI ((((gaps q).2 : Nat) : Int) + 1) (by omega) (by omega)
  have e2 := st3_1 (b' := .int .i64 ((((gaps q).2 : Nat) : Int) + 1)) hg rfl rfl
  have g2 : (H.set W ⟨[vl, .int .i64 ((((gaps q).2 : Nat) : Int) + 1), .bool last], 1, false, false⟩).get W = some ⟨[vl, .int .i64 ((((gaps q).2 : Nat) : Int) + 1), .bool last], 1, false, false⟩ := by rw [AH.get_set, if_pos rfl]
  have ho2 : OwnI n0 (H.set W ⟨[vl, .int .i64 ((((gaps q).2 : Nat) : Int) + 1), .bool last], 1, false, false⟩) vl (gaps q).1 := by
    refine Own.set ho rfl fun b hb => ?_
    obtain ⟨o, l, c, e⟩ := hb
    have := (ho.2 b o l c e).1
    rw [AH.get_set, if_neg (by omega)]
  have k2 : KeepB n0 W H (H.set W ⟨[vl, .int .i64 ((((gaps q).2 : Nat) : Int) + 1), .bool last], 1, false, false⟩) := ⟨Nat.le_refl _, fun b _ hb => by rw [AH.get_set, if_neg hb]⟩
  have hn2 : (H.set W ⟨[vl, .int .i64 ((((gaps q).2 : Nat) : Int) + 1), .bool last], 1, false, false⟩).n = H.n := rfl
  cases b with
  | false =>
    simp only [ofArgs, run_seq, run_block, run_ops, run_skip, run_exit, run_ret, thenQ_normal, thenQ_exit, thenQ_ret, blockQ_normal, blockQ_exit, blockQ_ret, retQ_ret, retQ_normal, ops_nil, ops_none, got_some, ops_wT, ops_wTn, ops_wF, ops_wFn, ops_wU, dops_wT, dops_wTn, dops_wF, dops_wFn, dops_wU, run_condT, run_condF, alt2_int, altB_bool, altI_int, altBB_bool, v_min, v_max, v_not, v_neg, optEv_none, optEv_some, isSome'_none, isSome'_some, pExt0, pExt1, pExt2, Bool.false_and, Bool.true_and, Bool.not_true, Bool.not_false, cond_true, cond_false, dops_nil, dops_none, xval_call, v_mov, v_bin, v_len, v_ext, v_idxA, v_ld, v_st, v_app, v_appN, v_cvs, v_bs1, pBs1, v_slc, v_conv, v_fld, v_fldA, v_new, v_box, v_mks, v_copy, v_isnil, v_nilck, v_pick, ev, evs_nil, evs_cons, fr_get_cons, fr_put_nil, fr_put_cons, fr_put_some, fr_put_none, fr_keep_nil, fr_keep_cons, fr_has_nil, fr_has_cons, Option.bind_some, Option.map_some, xbin, ibin, xresult_eq, xress_nil, xress_tmp, resV, ex_some, if_true, if_false, ite_true, ite_false, reduceIte, reduceCtorEq, Nat.reduceEqDiff, Nat.reduceLT, Nat.reduceLeDiff, Int.reduceLT, Int.reduceLE, Nat.zero_add, Nat.reduceAdd, Bool.false_eq_true, decide_eq_true_eq, decide_eq_false_iff_not, true_implies, false_implies, and_true, true_and, pNil_ptr, pFldA_ptr, e1, w1, e2]
    refine hq _ ⟨hW, by omega, vl, ?_, ?_⟩ k2
    · rw [gaps_snoc]; exact g2
    · rw [gaps_snoc]; exact ho2
  | true =>
    simp only [ofArgs, run_seq, run_block, run_ops, run_skip, run_exit, run_ret, thenQ_normal, thenQ_exit, thenQ_ret, blockQ_normal, blockQ_exit, blockQ_ret, retQ_ret, retQ_normal, ops_nil, ops_none, got_some, ops_wT, ops_wTn, ops_wF, ops_wFn, ops_wU, dops_wT, dops_wTn, dops_wF, dops_wFn, dops_wU, run_condT, run_condF, alt2_int, altB_bool, altI_int, altBB_bool, v_min, v_max, v_not, v_neg, optEv_none, optEv_some, isSome'_none, isSome'_some, pExt0, pExt1, pExt2, Bool.false_and, Bool.true_and, Bool.not_true, Bool.not_false, cond_true, cond_false, dops_nil, dops_none, xval_call, v_mov, v_bin, v_len, v_ext, v_idxA, v_ld, v_st, v_app, v_appN, v_cvs, v_bs1, pBs1, v_slc, v_conv, v_fld, v_fldA, v_new, v_box, v_mks, v_copy, v_isnil, v_nilck, v_pick, ev, evs_nil, evs_cons, fr_get_cons, fr_put_nil, fr_put_cons, fr_put_some, fr_put_none, fr_keep_nil, fr_keep_cons, fr_has_nil, fr_has_cons, Option.bind_some, Option.map_some, xbin, ibin, xresult_eq, xress_nil, xress_tmp, resV, ex_some, if_true, if_false, ite_true, ite_false, reduceIte, reduceCtorEq, Nat.reduceEqDiff, Nat.reduceLT, Nat.reduceLeDiff, Int.reduceLT, Int.reduceLE, Nat.zero_add, Nat.reduceAdd, Bool.false_eq_true, decide_eq_true_eq, decide_eq_false_iff_not, true_implies, false_implies, and_true, true_and, pNil_ptr, pFldA_ptr, e1, w1, e2]
    generalize (H.set W ⟨[vl, .int .i64 ((((gaps q).2 : Nat) : Int) + 1), .bool last], 1, false, false⟩) = H2 at g2 ho2 k2 hn2
    have e3 := ld3_0 g2
    have e4 := ld3_1 g2
    have hvq := Sl.veq ho2.1
    refine run_dopsS _ _ _ _ _ ?_
    simp only [ofArgs, run_seq, run_block, run_ops, run_skip, run_exit, run_ret, thenQ_normal, thenQ_exit, thenQ_ret, blockQ_normal, blockQ_exit, blockQ_ret, retQ_ret, retQ_normal, ops_nil, ops_none, got_some, ops_wT, ops_wTn, ops_wF, ops_wFn, ops_wU, dops_wT, dops_wTn, dops_wF, dops_wFn, dops_wU, run_condT, run_condF, alt2_int, altB_bool, altI_int, altBB_bool, v_min, v_max, v_not, v_neg, optEv_none, optEv_some, isSome'_none, isSome'_some, pExt0, pExt1, pExt2, Bool.false_and, Bool.true_and, Bool.not_true, Bool.not_false, cond_true, cond_false, dops_nil, dops_none, xval_call, v_mov, v_bin, v_len, v_ext, v_idxA, v_ld, v_st, v_app, v_appN, v_cvs, v_bs1, pBs1, v_slc, v_conv, v_fld, v_fldA, v_new, v_box, v_mks, v_copy, v_isnil, v_nilck, v_pick, ev, evs_nil, evs_cons, fr_get_cons, fr_put_nil, fr_put_cons, fr_put_some, fr_put_none, fr_keep_nil, fr_keep_cons, fr_has_nil, fr_has_cons, Option.bind_some, Option.map_some, xbin, ibin, xresult_eq, xress_nil, xress_tmp, resV, ex_some, if_true, if_false, ite_true, ite_false, reduceIte, reduceCtorEq, Nat.reduceEqDiff, Nat.reduceLT, Nat.reduceLeDiff, Int.reduceLT, Int.reduceLE, Nat.zero_add, Nat.reduceAdd, Bool.false_eq_true, decide_eq_true_eq, decide_eq_false_iff_not, true_implies, false_implies, and_true, true_and, dr_nil, dr_cons, hs0, hs1, hs2, hs3, addC_nil, addC_cons, stabAll_nil, stabAll_cons, stab1_nil, stab1_cons, hat_cons, xval_wT, xval_wTn, xval_wF, xval_wFn, veq_int, veq_bool, veq_ptr, veq_sl, pNil_ptr, pFldA_ptr, e3, e4]
    refine app_one ho2 (by omega) (by omega) ?_
    intro vl' H3 o3 st
    have hWv : ∀ b, b < n0 → ¬ inB vl b := fun b hb ⟨o, l, c, e⟩ => by have := (ho2.2 b o l c e).1; omega
    have g3 : H3.get W = some ⟨[vl, .int .i64 ((((gaps q).2 : Nat) : Int) + 1), .bool last], 1, false, false⟩ := by rw [st.get W (by omega) (hWv W hW)]; exact g2
    obtain ⟨s1, s2⟩ := sl_slice o3.1
    have e5 := st3_0 g3 s1 s2
    have g4 : (H3.set W ⟨[vl', .int .i64 ((((gaps q).2 : Nat) : Int) + 1), .bool last], 1, false, false⟩).get W = some ⟨[vl', .int .i64 ((((gaps q).2 : Nat) : Int) + 1), .bool last], 1, false, false⟩ := by rw [AH.get_set, if_pos rfl]
    have e6 := st3_1 (b' := .int .i64 0) g4 rfl rfl
    have gpush : (H2.push ⟨[.int .i64 ((((gaps q).2 : Nat) : Int) + 1)], 1, false, false⟩).get W = some ⟨[vl, .int .i64 ((((gaps q).2 : Nat) : Int) + 1), .bool last], 1, false, false⟩ := by rw [AH.get_push, if_neg (by omega)]; exact g2
    have e7 := ld3_0 gpush
    have hn3 := st.n
    simp only [ofArgs, run_seq, run_block, run_ops, run_skip, run_exit, run_ret, thenQ_normal, thenQ_exit, thenQ_ret, blockQ_normal, blockQ_exit, blockQ_ret, retQ_ret, retQ_normal, ops_nil, ops_none, got_some, ops_wT, ops_wTn, ops_wF, ops_wFn, ops_wU, dops_wT, dops_wTn, dops_wF, dops_wFn, dops_wU, run_condT, run_condF, alt2_int, altB_bool, altI_int, altBB_bool, v_min, v_max, v_not, v_neg, optEv_none, optEv_some, isSome'_none, isSome'_some, pExt0, pExt1, pExt2, Bool.false_and, Bool.true_and, Bool.not_true, Bool.not_false, cond_true, cond_false, dops_nil, dops_none, xval_call, v_mov, v_bin, v_len, v_ext, v_idxA, v_ld, v_st, v_app, v_appN, v_cvs, v_bs1, pBs1, v_slc, v_conv, v_fld, v_fldA, v_new, v_box, v_mks, v_copy, v_isnil, v_nilck, v_pick, ev, evs_nil, evs_cons, fr_get_cons, fr_put_nil, fr_put_cons, fr_put_some, fr_put_none, fr_keep_nil, fr_keep_cons, fr_has_nil, fr_has_cons, Option.bind_some, Option.map_some, xbin, ibin, xresult_eq, xress_nil, xress_tmp, resV, ex_some, if_true, if_false, ite_true, ite_false, reduceIte, reduceCtorEq, Nat.reduceEqDiff, Nat.reduceLT, Nat.reduceLeDiff, Int.reduceLT, Int.reduceLE, Nat.zero_add, Nat.reduceAdd, Bool.false_eq_true, decide_eq_true_eq, decide_eq_false_iff_not, true_implies, false_implies, and_true, true_and, dr_nil, dr_cons, hs0, hs1, hs2, hs3, addC_nil, addC_cons, stabAll_nil, stabAll_cons, stab1_nil, stab1_cons, hat_cons, xval_wT, xval_wTn, xval_wF, xval_wFn, veq_int, veq_bool, veq_ptr, veq_sl, pNil_ptr, pFldA_ptr, e5, e6, e7, hvq]
    refine hq _ ⟨hW, by show n0 ≤ H3.n; omega, vl', ?_, ?_⟩ ?_
    · rw [gaps_snoc, AH.get_set, if_pos rfl]; rfl
    · rw [gaps_snoc]
      have ho3 : OwnI n0 H3 vl' ((gaps q).1 ++ [((((gaps q).2 + 1 : Nat)) : Int)]) := o3
      refine Own.set ho3 rfl fun b hb => ?_
      obtain ⟨o, l, c, e⟩ := hb
      have := (o3.2 b o l c e).1
      rw [AH.get_set, if_neg (by omega), AH.get_set, if_neg (by omega)]
    · refine k2.trans ⟨hn3, fun b hb hbw => ?_⟩
      rw [AH.get_set, if_neg hbw, AH.get_set, if_neg hbw, st.get b (by omega) (hWv b hb)]

set_option maxHeartbeats 8000000 in
theorem put_l0 (n0 W c : Nat) (hc : c < 256) (mark : Bool) (r : Nat) : ∀ (q : List Bool) (last : Bool) (H : AH) (i : Int) (Q : XExit → Fr → AH → Prop), Wr n0 H W q last → q.length + 2 * r ≤ 100000 → r ≤ 8 → i = 8 - (r : Int) →
    (∀ H', Wr n0 H' W (q ++ msym c mark r last) (if r = 0 then last else c.testBit 0) → KeepB n0 W H H' → Q (.exit 0) [(0, .pointer (some ⟨W, 0, none⟩)), (1, .int .u8 c), (2, .bool mark), (8, .int .i64 8), (9, .bool false)] H') →
    Run Try.prog tab (.loop xmfm_writer_put_l0) [(0, .pointer (some ⟨W, 0, none⟩)), (1, .int .u8 c), (2, .bool mark), (8, .int .i64 i)] H Q := by
  induction r with
  | zero =>
    intro q last H i Q hw hl hr hi hq
    rw [run_loop]
    generalize hL : XCode.loop xmfm_writer_put_l0 = LL
    obtain rfl : i = 8 := by omega
    simp only [xmfm_writer_put_l0, ofArgs, run_seq, run_block, run_ops, run_skip, run_exit, run_ret, thenQ_normal, thenQ_exit, thenQ_ret, blockQ_normal, blockQ_exit, blockQ_ret, retQ_ret, retQ_normal, ops_nil, ops_none, got_some, ops_wT, ops_wTn, ops_wF, ops_wFn, ops_wU, dops_wT, dops_wTn, dops_wF, dops_wFn, dops_wU, run_condT, run_condF, alt2_int, altB_bool, altI_int, altBB_bool, v_min, v_max, v_not, v_neg, optEv_none, optEv_some, isSome'_none, isSome'_some, pExt0, pExt1, pExt2, Bool.false_and, Bool.true_and, Bool.not_true, Bool.not_false, cond_true, cond_false, dops_nil, dops_none, xval_call, v_mov, v_bin, v_len, v_ext, v_idxA, v_ld, v_st, v_app, v_appN, v_cvs, v_bs1, pBs1, v_slc, v_conv, v_fld, v_fldA, v_new, v_box, v_mks, v_copy, v_isnil, v_nilck, v_pick, ev, evs_nil, evs_cons, fr_get_cons, fr_put_nil, fr_put_cons, fr_put_some, fr_put_none, fr_keep_nil, fr_keep_cons, fr_has_nil, fr_has_cons, Option.bind_some, Option.map_some, xbin, ibin, xresult_eq, xress_nil, xress_tmp, resV, ex_some, if_true, if_false, ite_true, ite_false, reduceIte, reduceCtorEq, Nat.reduceEqDiff, Nat.reduceLT, Nat.reduceLeDiff, Int.reduceLT, Int.reduceLE, Nat.zero_add, Nat.reduceAdd, Bool.false_eq_true, decide_eq_true_eq, decide_eq_false_iff_not, true_implies, false_implies, and_true, true_and, Int.lt_irrefl, decide_false]
    exact hq H (by simpa [msym] using hw) (.refl _ _ _)
  | succ r ih =>
    intro q last H i Q hw hl hr hi hq
    have ih' := ih
    rw [run_loop]
    generalize hL : XCode.loop xmfm_writer_put_l0 = LL
    rw [hL] at ih'
    have hlt : i < 8 := by omega
    have w1 : IntKind.i64.wrap (7 - i) = (r : Int) := by rw [wrI _ (by omega) (by omega)]; omega
    have c2 : ¬ (r : Int) < 0 := by omega
    have t1 : min (Int.toNat (r : Int)) IntKind.u8.bits = r := by
      rw [Int.toNat_natCast]; show min _ 8 = _; omega
    have t2 := shrN c r
    have t3 := b_and (c >>> r) 1 (by rw [Nat.shiftRight_eq_div_pow]; exact Nat.lt_of_le_of_lt (Nat.div_le_self _ _) hc) (by omega)
    have n1 : ((1 : Nat) : Int) = 1 := rfl
    rw [n1] at t3
    have t4 := and1 c r
    have e5 : (i == 5) = decide (r = 2) := by
      by_cases h : r = 2
      · subst h; obtain rfl : i = 5 := by omega
        rfl
      · have : ¬ i = 5 := by omega
        simp [h, this]
    have hw0 := hw
    obtain ⟨hW, hn, vl, hg, ho⟩ := hw
    have e1 := ld3_2 hg
    have hcl : ∀ (Q : Value → AH → Prop), (∀ H', Wr n0 H' W (q ++ [(!(c.testBit r) && !last && !(mark && decide (r = 2)))]) last → KeepB n0 W H H' → Q (.tuple #[]) H') → Got (xc Try.prog tab 77 [.pointer (some ⟨W, 0, none⟩), .bool (!(c.testBit r) && !last && !(mark && decide (r = 2)))] H) Q :=
      fun Q h => place_w n0 H W q last _ Q hw0 (by omega) h
    generalize hbit : c.testBit r = bit at t4 hcl
    have rest : ∀ H1, Wr n0 H1 W (q ++ [(!bit && !last && !(mark && decide (r = 2)))]) last → KeepB n0 W H H1 → ∀ H2, Wr n0 H2 W (q ++ [(!bit && !last && !(mark && decide (r = 2)))] ++ [bit]) last → KeepB n0 W H1 H2 →
        ∃ vl2, H2.get W = some ⟨[vl2, .int .i64 ((gaps (q ++ [(!bit && !last && !(mark && decide (r = 2)))] ++ [bit])).2 : Nat), .bool last], 1, false, false⟩ ∧
          Run Try.prog tab LL [(0, .pointer (some ⟨W, 0, none⟩)), (1, .int .u8 c), (2, .bool mark), (8, .int .i64 (i + 1))] (H2.set W ⟨[vl2, .int .i64 ((gaps (q ++ [(!bit && !last && !(mark && decide (r = 2)))] ++ [bit])).2 : Nat), .bool bit], 1, false, false⟩) Q := by
      intro H1 w1' k1 H2 w2' k2
      obtain ⟨_, hn2, vl2, hg2, ho2⟩ := w2'
      refine ⟨vl2, hg2, ?_⟩
      have w3 : Wr n0 (H2.set W ⟨[vl2, .int .i64 ((gaps (q ++ [(!bit && !last && !(mark && decide (r = 2)))] ++ [bit])).2 : Nat), .bool bit], 1, false, false⟩) W (q ++ [(!bit && !last && !(mark && decide (r = 2)))] ++ [bit]) bit := by
        refine ⟨hW, hn2, vl2, by rw [AH.get_set, if_pos rfl], Own.set ho2 rfl fun b hb => ?_⟩
        obtain ⟨o, l, c, e⟩ := hb
        have := (ho2.2 b o l c e).1
        rw [AH.get_set, if_neg (by omega)]
      refine ih' _ bit _ (i + 1) Q w3 (by simp; omega) (by omega) (by omega) ?_
      intro H4 w4 k4
      have em : q ++ [(!bit && !last && !(mark && decide (r = 2)))] ++ [bit] ++ msym c mark r bit = q ++ msym c mark (r + 1) last := by
        simp [msym, hbit]
      rw [em] at w4
      refine hq H4 ?_ (((k1.trans k2).trans (kset n0 W H2 _)).trans k4)
      have : (if r + 1 = 0 then last else c.testBit 0) = (if r = 0 then bit else c.testBit 0) := by
        rw [if_neg (by omega)]
        by_cases h : r = 0
        · subst h; simp [hbit]
        · rw [if_neg h]
      rw [this]; exact w4
    have fin : ∀ (Q' : Value → AH → Prop), (∀ H1, Wr n0 H1 W (q ++ [(!bit && !last && !(mark && decide (r = 2)))]) last → KeepB n0 W H H1 → Q' (.tuple #[]) H1) → Got (xc Try.prog tab 77 [.pointer (some ⟨W, 0, none⟩), .bool (!bit && !last && !(mark && decide (r = 2)))] H) Q' := hcl
    have w4 := wrI (i + 1) (by omega) (by omega)
    generalize hcb : (!bit && !last && !(mark && decide (r = 2))) = cb at rest fin
    have close : Got (xc Try.prog tab 77 [.pointer (some ⟨W, 0, none⟩), .bool cb] H) fun v H1 => Got (xc Try.prog tab 77 [.pointer (some ⟨W, 0, none⟩), .bool bit] H1) fun v2 H2 => ∃ vl2 g, H2.get W = some ⟨[vl2, .int .i64 g, .bool last], 1, false, false⟩ ∧
        Run Try.prog tab LL [(0, .pointer (some ⟨W, 0, none⟩)), (1, .int .u8 c), (2, .bool mark), (8, .int .i64 (i + 1))] (H2.set W ⟨[vl2, .int .i64 g, .bool bit], 1, false, false⟩) Q := by
      refine fin _ ?_
      intro H1 w1' k1
      refine place_w n0 H1 W _ last bit _ w1' (by simp; omega) ?_
      intro H2 w2' k2
      obtain ⟨vl2, h1, h2⟩ := rest H1 w1' k1 H2 w2' k2
      exact ⟨vl2, _, h1, h2⟩
    clear rest fin hcl hq ih ih'
    have done : ∀ {P1 : Value → AH → Prop}, (∀ v H1, (Got (xc Try.prog tab 77 [.pointer (some ⟨W, 0, none⟩), .bool bit] H1) fun v2 H2 => ∃ vl2 g, H2.get W = some ⟨[vl2, .int .i64 g, .bool last], 1, false, false⟩ ∧
        Run Try.prog tab LL [(0, .pointer (some ⟨W, 0, none⟩)), (1, .int .u8 c), (2, .bool mark), (8, .int .i64 (i + 1))] (H2.set W ⟨[vl2, .int .i64 g, .bool bit], 1, false, false⟩) Q) → P1 v H1) → Got (xc Try.prog tab 77 [.pointer (some ⟨W, 0, none⟩), .bool cb] H) P1 :=
      fun h => close.mono h
    rcases (Bool.eq_false_or_eq_true (decide (r = 2))) with hd | hd <;> cases bit <;> cases last <;> cases mark <;>
      (rw [hd] at e5
       simp only [hd, Bool.not_true, Bool.not_false, Bool.and_true, Bool.and_false, Bool.true_and, Bool.false_and] at hcb
       subst hcb
       simp only [xmfm_writer_put_l0, ofArgs, run_seq, run_block, run_ops, run_skip, run_exit, run_ret, thenQ_normal, thenQ_exit, thenQ_ret, blockQ_normal, blockQ_exit, blockQ_ret, retQ_ret, retQ_normal, ops_nil, ops_none, got_some, ops_wT, ops_wTn, ops_wF, ops_wFn, ops_wU, dops_wT, dops_wTn, dops_wF, dops_wFn, dops_wU, run_condT, run_condF, alt2_int, altB_bool, altI_int, altBB_bool, v_min, v_max, v_not, v_neg, optEv_none, optEv_some, isSome'_none, isSome'_some, pExt0, pExt1, pExt2, Bool.false_and, Bool.true_and, Bool.not_true, Bool.not_false, cond_true, cond_false, dops_nil, dops_none, xval_call, v_mov, v_bin, v_len, v_ext, v_idxA, v_ld, v_st, v_app, v_appN, v_cvs, v_bs1, pBs1, v_slc, v_conv, v_fld, v_fldA, v_new, v_box, v_mks, v_copy, v_isnil, v_nilck, v_pick, ev, evs_nil, evs_cons, fr_get_cons, fr_put_nil, fr_put_cons, fr_put_some, fr_put_none, fr_keep_nil, fr_keep_cons, fr_has_nil, fr_has_cons, Option.bind_some, Option.map_some, xbin, ibin, xresult_eq, xress_nil, xress_tmp, resV, ex_some, if_true, if_false, ite_true, ite_false, reduceIte, reduceCtorEq, Nat.reduceEqDiff, Nat.reduceLT, Nat.reduceLeDiff, Int.reduceLT, Int.reduceLE, Nat.zero_add, Nat.reduceAdd, Bool.false_eq_true, decide_eq_true_eq, decide_eq_false_iff_not, true_implies, false_implies, and_true, true_and, hlt, decide_true, w1, c2, t1, t2, t3, t4, pNil_ptr, pFldA_ptr, e1, e5]
       refine done fun v H1 hg1 => ?_
       refine hg1.mono ?_
       rintro v2 H2 ⟨vl2, g, h1, h2⟩
       have e9 := fun x : Bool => st3_2 (c' := .bool x) h1 rfl rfl
       simp only [ofArgs, run_seq, run_block, run_ops, run_skip, run_exit, run_ret, thenQ_normal, thenQ_exit, thenQ_ret, blockQ_normal, blockQ_exit, blockQ_ret, retQ_ret, retQ_normal, ops_nil, ops_none, got_some, ops_wT, ops_wTn, ops_wF, ops_wFn, ops_wU, dops_wT, dops_wTn, dops_wF, dops_wFn, dops_wU, run_condT, run_condF, alt2_int, altB_bool, altI_int, altBB_bool, v_min, v_max, v_not, v_neg, optEv_none, optEv_some, isSome'_none, isSome'_some, pExt0, pExt1, pExt2, Bool.false_and, Bool.true_and, Bool.not_true, Bool.not_false, cond_true, cond_false, dops_nil, dops_none, xval_call, v_mov, v_bin, v_len, v_ext, v_idxA, v_ld, v_st, v_app, v_appN, v_cvs, v_bs1, pBs1, v_slc, v_conv, v_fld, v_fldA, v_new, v_box, v_mks, v_copy, v_isnil, v_nilck, v_pick, ev, evs_nil, evs_cons, fr_get_cons, fr_put_nil, fr_put_cons, fr_put_some, fr_put_none, fr_keep_nil, fr_keep_cons, fr_has_nil, fr_has_cons, Option.bind_some, Option.map_some, xbin, ibin, xresult_eq, xress_nil, xress_tmp, resV, ex_some, if_true, if_false, ite_true, ite_false, reduceIte, reduceCtorEq, Nat.reduceEqDiff, Nat.reduceLT, Nat.reduceLeDiff, Int.reduceLT, Int.reduceLE, Nat.zero_add, Nat.reduceAdd, Bool.false_eq_true, decide_eq_true_eq, decide_eq_false_iff_not, true_implies, false_implies, and_true, true_and, pNil_ptr, pFldA_ptr, e9, w4]
       exact h2)
end Go.Proofs.Ytejedmocjdcdgaa.D
