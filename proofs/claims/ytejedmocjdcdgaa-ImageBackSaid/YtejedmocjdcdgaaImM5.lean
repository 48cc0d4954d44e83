/- What runs of the program's functions compute, on a heap of the run's own, and that the machine does what such a run says: the conditions stand in each theorem. -/
import Derived.Test.YtejedmocjdcdgaaImM4
set_option linter.unusedSimpArgs false
set_option linter.unusedVariables false
namespace Go.Proofs.Ytejedmocjdcdgaa.D
open Go Go.Det

theorem put_w (n0 : Nat) (H : AH) (W : Nat) (q : List Bool) (last : Bool) (c : Nat) (hc : c < 256) (mark : Bool) (Q : Value → AH → Prop) (hw : Wr n0 H W q last) (hl : q.length ≤ 90000) (hq : ∀ H', Wr n0 H' W (q ++ msym c mark 8 last) (c.testBit 0) → KeepB n0 W H H' → Q (.tuple #[]) H') :
    Got (xc Try.prog tab 76 [.pointer (some ⟨W, 0, none⟩), .int .u8 c, .bool mark] H) Q := by
  refine got_call (res := []) rfl ?_
  simp only [ofArgs, run_seq, run_block, run_ops, run_skip, run_exit, run_ret, thenQ_normal, thenQ_exit, thenQ_ret, blockQ_normal, blockQ_exit, blockQ_ret, retQ_ret, retQ_normal, ops_nil, ops_none, got_some, ops_wT, ops_wTn, ops_wF, ops_wFn, ops_wU, dops_wT, dops_wTn, dops_wF, dops_wFn, dops_wU, run_condT, run_condF, alt2_int, altB_bool, altI_int, altBB_bool, v_min, v_max, v_not, v_neg, optEv_none, optEv_some, isSome'_none, isSome'_some, pExt0, pExt1, pExt2, Bool.false_and, Bool.true_and, Bool.not_true, Bool.not_false, cond_true, cond_false, dops_nil, dops_none, xval_call, v_mov, v_bin, v_len, v_ext, v_idxA, v_ld, v_st, v_app, v_appN, v_cvs, v_bs1, pBs1, v_slc, v_conv, v_fld, v_fldA, v_new, v_box, v_mks, v_copy, v_isnil, v_nilck, v_pick, ev, evs_nil, evs_cons, fr_get_cons, fr_put_nil, fr_put_cons, fr_put_some, fr_put_none, fr_keep_nil, fr_keep_cons, fr_has_nil, fr_has_cons, Option.bind_some, Option.map_some, xbin, ibin, xresult_eq, xress_nil, xress_tmp, resV, ex_some, if_true, if_false, ite_true, ite_false, reduceIte, reduceCtorEq, Nat.reduceEqDiff, Nat.reduceLT, Nat.reduceLeDiff, Int.reduceLT, Int.reduceLE, Nat.zero_add, Nat.reduceAdd, Bool.false_eq_true, decide_eq_true_eq, decide_eq_false_iff_not, true_implies, false_implies, and_true, true_and]
  refine put_l0 n0 W c hc mark 8 q last H 0 _ hw (by omega) (by omega) (by omega) ?_
  intro H' w' k'
  simp only [ofArgs, run_seq, run_block, run_ops, run_skip, run_exit, run_ret, thenQ_normal, thenQ_exit, thenQ_ret, blockQ_normal, blockQ_exit, blockQ_ret, retQ_ret, retQ_normal, ops_nil, ops_none, got_some, ops_wT, ops_wTn, ops_wF, ops_wFn, ops_wU, dops_wT, dops_wTn, dops_wF, dops_wFn, dops_wU, run_condT, run_condF, alt2_int, altB_bool, altI_int, altBB_bool, v_min, v_max, v_not, v_neg, optEv_none, optEv_some, isSome'_none, isSome'_some, pExt0, pExt1, pExt2, Bool.false_and, Bool.true_and, Bool.not_true, Bool.not_false, cond_true, cond_false, dops_nil, dops_none, xval_call, v_mov, v_bin, v_len, v_ext, v_idxA, v_ld, v_st, v_app, v_appN, v_cvs, v_bs1, pBs1, v_slc, v_conv, v_fld, v_fldA, v_new, v_box, v_mks, v_copy, v_isnil, v_nilck, v_pick, ev, evs_nil, evs_cons, fr_get_cons, fr_put_nil, fr_put_cons, fr_put_some, fr_put_none, fr_keep_nil, fr_keep_cons, fr_has_nil, fr_has_cons, Option.bind_some, Option.map_some, xbin, ibin, xresult_eq, xress_nil, xress_tmp, resV, ex_some, if_true, if_false, ite_true, ite_false, reduceIte, reduceCtorEq, Nat.reduceEqDiff, Nat.reduceLT, Nat.reduceLeDiff, Int.reduceLT, Int.reduceLE, Nat.zero_add, Nat.reduceAdd, Bool.false_eq_true, decide_eq_true_eq, decide_eq_false_iff_not, true_implies, false_implies, and_true, true_and]
  exact hq H' (by simpa using w') k'

def syms : List Int → Bool → List Bool
  | [], _ => []
  | c :: l, last => msym c.toNat false 8 last ++ syms l (c.toNat.testBit 0)
def lastOf : List Int → Bool → Bool
  | [], last => last
  | c :: l, _ => lastOf l (c.toNat.testBit 0)
theorem syms_len (l : List Int) : ∀ last, (syms l last).length = 16 * l.length := by
  induction l with
  | nil => intro last; rfl
  | cons c l ih => intro last; simp [syms, msym_len, ih]; omega
/-- all places of a part alone, and the closing bit -/
def full (mark : Bool) (a : List Int) : List Bool := (if mark then msym 161 true 8 true else []) ++ syms a true ++ [false, true]
theorem full_len (mark : Bool) (a : List Int) : (full mark a).length = 2 * (8 * ((if mark then 1 else 0) + a.length) + 1) := by
  unfold full; cases mark <;> simp [msym_len, syms_len] <;> omega

/-! ### no length is above 4 -/
theorem gaps_app (q m : List Bool) : gaps (q ++ m) = m.foldl plc (gaps q) := by unfold gaps; rw [List.foldl_append]
def GB (q : List Bool) (last : Bool) : Prop := (∀ g ∈ (gaps q).1, g ≤ 4) ∧ (gaps q).2 ≤ 2 ∧ (last = true → (gaps q).2 = 0)
theorem gb_bit (q : List Bool) (last bit : Bool) (h : GB q last) : GB (q ++ [(!bit && !last), bit]) bit := by
  obtain ⟨h1, h2, h3⟩ := h
  unfold GB
  rw [gaps_app]
  generalize gaps q = s at h1 h2 h3
  obtain ⟨l, g⟩ := s
  simp only [] at h1 h2 h3
  cases bit <;> cases last
  · simp [plc]
    intro a ha
    rcases ha with ha | ha
    · exact h1 a ha
    · omega
  · have := h3 rfl
    subst this
    simp [plc]
    exact h1
  · simp [plc]
    intro a ha
    rcases ha with ha | ha
    · exact h1 a ha
    · omega
  · simp [plc]
    intro a ha
    rcases ha with ha | ha
    · exact h1 a ha
    · omega
theorem gb_sym (c : Nat) (r : Nat) : ∀ q last, GB q last → GB (q ++ msym c false r last) (if r = 0 then last else c.testBit 0) := by
  induction r with
  | zero => intro q last h; simpa [msym] using h
  | succ r ih =>
    intro q last h
    have h1 := ih _ _ (gb_bit q last (c.testBit r) h)
    have e : q ++ msym c false (r + 1) last = q ++ [(!(c.testBit r) && !last), c.testBit r] ++ msym c false r (c.testBit r) := by simp [msym]
    rw [e, if_neg (by omega)]
    by_cases hr : r = 0
    · subst hr; simpa using h1
    · rw [if_neg hr] at h1; exact h1
theorem gb_syms (a : List Int) : ∀ q last, GB q last → GB (q ++ syms a last) (lastOf a last) := by
  induction a with
  | nil => intro q last h; simpa [syms, lastOf] using h
  | cons c a ih =>
    intro q last h
    have h1 := ih _ _ (by simpa using gb_sym c.toNat 8 q last h)
    simpa [syms, lastOf] using h1
theorem gb_mark : GB (msym 161 true 8 true) true := by
  have e : gaps (msym 161 true 8 true) = ([2, 4, 3, 4, 3], 0) := by decide
  unfold GB
  rw [e]
  simp
theorem full_gb (mark : Bool) (a : List Int) : (∀ g ∈ (gaps (full mark a)).1, 1 ≤ g ∧ g ≤ 4) ∧ (gaps (full mark a)).2 = 0 := by
  have h0 : GB (if mark then msym 161 true 8 true else []) true := by
    cases mark
    · simp [GB, gaps]
    · exact gb_mark
  have h1 := gb_syms a _ _ h0
  have hp := gaps_pos (full mark a)
  have h2 : ∀ g ∈ (gaps (full mark a)).1, g ≤ 4 := by
    unfold full
    rw [gaps_app]
    generalize (if mark then msym 161 true 8 true else []) ++ syms a true = q at h1
    obtain ⟨g1, g2, g3⟩ := h1
    generalize gaps q = s at g1 g2 g3
    obtain ⟨l, g⟩ := s
    simp [plc] at g1 g2 ⊢
    intro b hb
    rcases hb with hb | hb
    · exact g1 b hb
    · omega
  refine ⟨fun g hg => ⟨hp g hg, h2 g hg⟩, ?_⟩
  unfold full
  rw [gaps_app]
  simp [plc]

/-! ### a list of one part -/
theorem ld_part {H : AH} {vp m va : Value} (h : Sl H 2 vp 1 [m, va]) : pIdx 2 vp (.int .i64 0) H = some (ptrAt vp 0, H) ∧ pLd (some 2) (ptrAt vp 0) H = some (.agg #[m, va], H) := by
  refine ⟨by have := pIdx_ok h .i64 0 0 rfl (by omega); simpa using this, ?_⟩
  obtain ⟨B, o, c, blk, rfl, h1, h2, h3, h4, h5, h6⟩ := h.live (by omega)
  show ((H.get B).bind fun blk => (partV blk.cells (o + 0) (some 2)).map fun v => (v, H)) = _
  rw [h2]
  have hle : Nat.ble (o + 0 + 2) blk.cells.length = true := by rw [Nat.ble_eq]; omega
  have e : ((blk.cells.drop o).take 2) = [m, va] := by simpa using h6
  simp only [Option.bind_some, partV, hle, cond_true, Nat.add_zero, e, Option.map_some]
theorem st2 {H : AH} {B : Nat} {a b a' b' : Value} (h : H.get B = some ⟨[a, b], 1, false, false⟩) (h1 : one a' = true) (h2 : one b' = true) : pSt 2 (.pointer (some ⟨B, 0, none⟩)) (.agg #[a', b']) H = some (undef, H.set B ⟨[a', b'], 1, false, false⟩) := by
  have e : vcells (.agg #[a', b']) = [a', b'] := rfl
  unfold pSt
  simp only [h, Option.bind_some, e, List.all_cons, List.all_nil, h1, h2]
  rfl
theorem ld2_0 {H : AH} {B : Nat} {a b : Value} (h : H.get B = some ⟨[a, b], 1, false, false⟩) : pLd none (.pointer (some ⟨B, 0, none⟩)) H = some (a, H) := by unfold pLd; simp only [h]; rfl
theorem ld2_1 {H : AH} {B : Nat} {a b : Value} (h : H.get B = some ⟨[a, b], 1, false, false⟩) : pLd none (.pointer (some ⟨B, 1, none⟩)) H = some (b, H) := by unfold pLd; simp only [h]; rfl
/-- a struct of two is loaded into a box of its own -/
theorem set_ext (H : AH) (x y : Blk) : HExt H ((H.push x).set H.n y) := ⟨by show _ ≤ H.n + 1; omega, fun b hb => by rw [AH.get_set, if_neg (by omega), AH.get_push, if_neg (by omega)]⟩

theorem size1_ok (mark : Bool) (a : List Int) (vp va : Value) (H : AH) (Q : Value → AH → Prop) (hp : Sl H 2 vp 1 [.bool mark, va]) (ha : Byts H va a) (hl : a.length ≤ 2000) (hq : ∀ H', HExt H H' → Q (.int .i64 ((a.length : Int) + (if mark then 1 else 0))) H') :
    Got (xc Try.prog tab 75 [vp] H) Q := by
  refine got_call (res := [.tmp 2]) rfl ?_
  obtain ⟨e1, e2⟩ := ld_part hp
  have e0 := pLen_ok hp
  obtain ⟨o1, o2⟩ := sl_slice ha
  have g1 : (H.push ⟨[.bool false, .slice none 0 0], 1, false, false⟩).get H.n = some ⟨[.bool false, .slice none 0 0], 1, false, false⟩ := by rw [AH.get_push, if_pos rfl]
  have e3 := st2 (a' := .bool mark) (b' := va) g1 rfl o1
  have g2 : ((H.push ⟨[.bool false, .slice none 0 0], 1, false, false⟩).set H.n ⟨[.bool mark, va], 1, false, false⟩).get H.n = some ⟨[.bool mark, va], 1, false, false⟩ := by rw [AH.get_set, if_pos rfl]
  have hx := set_ext H ⟨[.bool false, .slice none 0 0], 1, false, false⟩ ⟨[.bool mark, va], 1, false, false⟩
  have e4 := ld2_0 g2
  have e5 := ld2_1 g2
  have e6 := byts_len' (Sl.ext hx ha : Byts _ va a)
  have w1 := wrI (0 + (a.length : Int)) (by omega) (by omega)
  have w2 := wrI (0 + (a.length : Int) + 1) (by omega) (by omega)
  have c1 : ¬ (0 + (a.length : Int) > 2400) := by omega
  have c2 : ¬ (0 + (a.length : Int) + 1 > 2400) := by omega
  have n1 : ((1 : Nat) : Int) = 1 := rfl
  have w3 : IntKind.i64.wrap (0 + 1) = 1 := rfl
  simp only [ofArgs, run_seq, run_block, run_ops, run_skip, run_exit, run_ret, thenQ_normal, thenQ_exit, thenQ_ret, blockQ_normal, blockQ_exit, blockQ_ret, retQ_ret, retQ_normal, ops_nil, ops_none, got_some, ops_wT, ops_wTn, ops_wF, ops_wFn, ops_wU, dops_wT, dops_wTn, dops_wF, dops_wFn, dops_wU, run_condT, run_condF, alt2_int, altB_bool, altI_int, altBB_bool, v_min, v_max, v_not, v_neg, optEv_none, optEv_some, isSome'_none, isSome'_some, pExt0, pExt1, pExt2, Bool.false_and, Bool.true_and, Bool.not_true, Bool.not_false, cond_true, cond_false, dops_nil, dops_none, xval_call, v_mov, v_bin, v_len, v_ext, v_idxA, v_ld, v_st, v_app, v_appN, v_cvs, v_bs1, pBs1, v_slc, v_conv, v_fld, v_fldA, v_new, v_box, v_mks, v_copy, v_isnil, v_nilck, v_pick, ev, evs_nil, evs_cons, fr_get_cons, fr_put_nil, fr_put_cons, fr_put_some, fr_put_none, fr_keep_nil, fr_keep_cons, fr_has_nil, fr_has_cons, Option.bind_some, Option.map_some, xbin, ibin, xresult_eq, xress_nil, xress_tmp, resV, ex_some, if_true, if_false, ite_true, ite_false, reduceIte, reduceCtorEq, Nat.reduceEqDiff, Nat.reduceLT, Nat.reduceLeDiff, Int.reduceLT, Int.reduceLE, Nat.zero_add, Nat.reduceAdd, Bool.false_eq_true, decide_eq_true_eq, decide_eq_false_iff_not, true_implies, false_implies, and_true, true_and, e0, n1]
  rw [run_loop]
  generalize hL : XCode.loop xmfm_size_l0 = LL
  cases mark
  · simp only [xmfm_size_l0, ofArgs, run_seq, run_block, run_ops, run_skip, run_exit, run_ret, thenQ_normal, thenQ_exit, thenQ_ret, blockQ_normal, blockQ_exit, blockQ_ret, retQ_ret, retQ_normal, ops_nil, ops_none, got_some, ops_wT, ops_wTn, ops_wF, ops_wFn, ops_wU, dops_wT, dops_wTn, dops_wF, dops_wFn, dops_wU, run_condT, run_condF, alt2_int, altB_bool, altI_int, altBB_bool, v_min, v_max, v_not, v_neg, optEv_none, optEv_some, isSome'_none, isSome'_some, pExt0, pExt1, pExt2, Bool.false_and, Bool.true_and, Bool.not_true, Bool.not_false, cond_true, cond_false, dops_nil, dops_none, xval_call, v_mov, v_bin, v_len, v_ext, v_idxA, v_ld, v_st, v_app, v_appN, v_cvs, v_bs1, pBs1, v_slc, v_conv, v_fld, v_fldA, v_new, v_box, v_mks, v_copy, v_isnil, v_nilck, v_pick, ev, evs_nil, evs_cons, fr_get_cons, fr_put_nil, fr_put_cons, fr_put_some, fr_put_none, fr_keep_nil, fr_keep_cons, fr_has_nil, fr_has_cons, Option.bind_some, Option.map_some, xbin, ibin, xresult_eq, xress_nil, xress_tmp, resV, ex_some, if_true, if_false, ite_true, ite_false, reduceIte, reduceCtorEq, Nat.reduceEqDiff, Nat.reduceLT, Nat.reduceLeDiff, Int.reduceLT, Int.reduceLE, Nat.zero_add, Nat.reduceAdd, Bool.false_eq_true, decide_eq_true_eq, decide_eq_false_iff_not, true_implies, false_implies, and_true, true_and, decide_true, decide_false, e1, e2, e3, pFldA_ptr, e4, e5, e6, w1, c1, w3]
    subst hL
    rw [run_loop]
    generalize hL : XCode.loop xmfm_size_l0 = LL
    simp only [xmfm_size_l0, ofArgs, run_seq, run_block, run_ops, run_skip, run_exit, run_ret, thenQ_normal, thenQ_exit, thenQ_ret, blockQ_normal, blockQ_exit, blockQ_ret, retQ_ret, retQ_normal, ops_nil, ops_none, got_some, ops_wT, ops_wTn, ops_wF, ops_wFn, ops_wU, dops_wT, dops_wTn, dops_wF, dops_wFn, dops_wU, run_condT, run_condF, alt2_int, altB_bool, altI_int, altBB_bool, v_min, v_max, v_not, v_neg, optEv_none, optEv_some, isSome'_none, isSome'_some, pExt0, pExt1, pExt2, Bool.false_and, Bool.true_and, Bool.not_true, Bool.not_false, cond_true, cond_false, dops_nil, dops_none, xval_call, v_mov, v_bin, v_len, v_ext, v_idxA, v_ld, v_st, v_app, v_appN, v_cvs, v_bs1, pBs1, v_slc, v_conv, v_fld, v_fldA, v_new, v_box, v_mks, v_copy, v_isnil, v_nilck, v_pick, ev, evs_nil, evs_cons, fr_get_cons, fr_put_nil, fr_put_cons, fr_put_some, fr_put_none, fr_keep_nil, fr_keep_cons, fr_has_nil, fr_has_cons, Option.bind_some, Option.map_some, xbin, ibin, xresult_eq, xress_nil, xress_tmp, resV, ex_some, if_true, if_false, ite_true, ite_false, reduceIte, reduceCtorEq, Nat.reduceEqDiff, Nat.reduceLT, Nat.reduceLeDiff, Int.reduceLT, Int.reduceLE, Nat.zero_add, Nat.reduceAdd, Bool.false_eq_true, decide_eq_true_eq, decide_eq_false_iff_not, true_implies, false_implies, and_true, true_and, Int.lt_irrefl, decide_false]
    have := hq _ hx
    simpa using this
  · simp only [xmfm_size_l0, ofArgs, run_seq, run_block, run_ops, run_skip, run_exit, run_ret, thenQ_normal, thenQ_exit, thenQ_ret, blockQ_normal, blockQ_exit, blockQ_ret, retQ_ret, retQ_normal, ops_nil, ops_none, got_some, ops_wT, ops_wTn, ops_wF, ops_wFn, ops_wU, dops_wT, dops_wTn, dops_wF, dops_wFn, dops_wU, run_condT, run_condF, alt2_int, altB_bool, altI_int, altBB_bool, v_min, v_max, v_not, v_neg, optEv_none, optEv_some, isSome'_none, isSome'_some, pExt0, pExt1, pExt2, Bool.false_and, Bool.true_and, Bool.not_true, Bool.not_false, cond_true, cond_false, dops_nil, dops_none, xval_call, v_mov, v_bin, v_len, v_ext, v_idxA, v_ld, v_st, v_app, v_appN, v_cvs, v_bs1, pBs1, v_slc, v_conv, v_fld, v_fldA, v_new, v_box, v_mks, v_copy, v_isnil, v_nilck, v_pick, ev, evs_nil, evs_cons, fr_get_cons, fr_put_nil, fr_put_cons, fr_put_some, fr_put_none, fr_keep_nil, fr_keep_cons, fr_has_nil, fr_has_cons, Option.bind_some, Option.map_some, xbin, ibin, xresult_eq, xress_nil, xress_tmp, resV, ex_some, if_true, if_false, ite_true, ite_false, reduceIte, reduceCtorEq, Nat.reduceEqDiff, Nat.reduceLT, Nat.reduceLeDiff, Int.reduceLT, Int.reduceLE, Nat.zero_add, Nat.reduceAdd, Bool.false_eq_true, decide_eq_true_eq, decide_eq_false_iff_not, true_implies, false_implies, and_true, true_and, decide_true, decide_false, e1, e2, e3, pFldA_ptr, e4, e5, e6, w1, w2, c2, w3]
    subst hL
    rw [run_loop]
    generalize hL : XCode.loop xmfm_size_l0 = LL
    simp only [xmfm_size_l0, ofArgs, run_seq, run_block, run_ops, run_skip, run_exit, run_ret, thenQ_normal, thenQ_exit, thenQ_ret, blockQ_normal, blockQ_exit, blockQ_ret, retQ_ret, retQ_normal, ops_nil, ops_none, got_some, ops_wT, ops_wTn, ops_wF, ops_wFn, ops_wU, dops_wT, dops_wTn, dops_wF, dops_wFn, dops_wU, run_condT, run_condF, alt2_int, altB_bool, altI_int, altBB_bool, v_min, v_max, v_not, v_neg, optEv_none, optEv_some, isSome'_none, isSome'_some, pExt0, pExt1, pExt2, Bool.false_and, Bool.true_and, Bool.not_true, Bool.not_false, cond_true, cond_false, dops_nil, dops_none, xval_call, v_mov, v_bin, v_len, v_ext, v_idxA, v_ld, v_st, v_app, v_appN, v_cvs, v_bs1, pBs1, v_slc, v_conv, v_fld, v_fldA, v_new, v_box, v_mks, v_copy, v_isnil, v_nilck, v_pick, ev, evs_nil, evs_cons, fr_get_cons, fr_put_nil, fr_put_cons, fr_put_some, fr_put_none, fr_keep_nil, fr_keep_cons, fr_has_nil, fr_has_cons, Option.bind_some, Option.map_some, xbin, ibin, xresult_eq, xress_nil, xress_tmp, resV, ex_some, if_true, if_false, ite_true, ite_false, reduceIte, reduceCtorEq, Nat.reduceEqDiff, Nat.reduceLT, Nat.reduceLeDiff, Int.reduceLT, Int.reduceLE, Nat.zero_add, Nat.reduceAdd, Bool.false_eq_true, decide_eq_true_eq, decide_eq_false_iff_not, true_implies, false_implies, and_true, true_and, Int.lt_irrefl, decide_false]
    have := hq _ hx
    simpa using this

theorem wp_l0 (n0 W : Nat) (va p16 : Value) (cell i17 i18 : Int) (hva : ∀ b, inB va b → b < W) (rest : List Int) : ∀ (pre : List Int) (q : List Bool) (last : Bool) (H : AH) (i N : Int) (Q : XExit → Fr → AH → Prop), Wr n0 H W q last → Byts H va (pre ++ rest) → B8 rest → q.length + 16 * rest.length ≤ 80000 → pre.length + rest.length ≤ 10000 → i = (pre.length : Int) → N = ((pre ++ rest).length : Int) →
    (∀ H', Wr n0 H' W (q ++ syms rest last) (lastOf rest last) → KeepB n0 W H H' → Q (.exit 2) [(1, .int .i64 cell), (6, .pointer (some ⟨W, 0, none⟩)), (16, p16), (17, .int .i64 i17), (18, .int .i64 i18), (27, va), (28, .int .i64 N), (29, .int .i64 N), (30, .bool false)] H') →
    Run Try.prog tab (.loop xmfm_WriteParts_l0) [(1, .int .i64 cell), (6, .pointer (some ⟨W, 0, none⟩)), (16, p16), (17, .int .i64 i17), (18, .int .i64 i18), (27, va), (28, .int .i64 N), (29, .int .i64 i)] H Q := by
  induction rest with
  | nil =>
    intro pre q last H i N Q hw hs hb hl hl2 hi hN hq
    rw [run_loop]
    generalize hL : XCode.loop xmfm_WriteParts_l0 = LL
    have hiN : i = N := by simp at hN; omega
    subst hiN
    have hf : ¬ i < i := by omega
    simp only [xmfm_WriteParts_l0, ofArgs, run_seq, run_block, run_ops, run_skip, run_exit, run_ret, thenQ_normal, thenQ_exit, thenQ_ret, blockQ_normal, blockQ_exit, blockQ_ret, retQ_ret, retQ_normal, ops_nil, ops_none, got_some, ops_wT, ops_wTn, ops_wF, ops_wFn, ops_wU, dops_wT, dops_wTn, dops_wF, dops_wFn, dops_wU, run_condT, run_condF, alt2_int, altB_bool, altI_int, altBB_bool, v_min, v_max, v_not, v_neg, optEv_none, optEv_some, isSome'_none, isSome'_some, pExt0, pExt1, pExt2, Bool.false_and, Bool.true_and, Bool.not_true, Bool.not_false, cond_true, cond_false, dops_nil, dops_none, xval_call, v_mov, v_bin, v_len, v_ext, v_idxA, v_ld, v_st, v_app, v_appN, v_cvs, v_bs1, pBs1, v_slc, v_conv, v_fld, v_fldA, v_new, v_box, v_mks, v_copy, v_isnil, v_nilck, v_pick, ev, evs_nil, evs_cons, fr_get_cons, fr_put_nil, fr_put_cons, fr_put_some, fr_put_none, fr_keep_nil, fr_keep_cons, fr_has_nil, fr_has_cons, Option.bind_some, Option.map_some, xbin, ibin, xresult_eq, xress_nil, xress_tmp, resV, ex_some, if_true, if_false, ite_true, ite_false, reduceIte, reduceCtorEq, Nat.reduceEqDiff, Nat.reduceLT, Nat.reduceLeDiff, Int.reduceLT, Int.reduceLE, Nat.zero_add, Nat.reduceAdd, Bool.false_eq_true, decide_eq_true_eq, decide_eq_false_iff_not, true_implies, false_implies, and_true, true_and, hf, decide_false]
    exact hq H (by simpa [syms, lastOf] using hw) (.refl _ _ _)
  | cons a rest ih =>
    intro pre q last H i N Q hw hs hb hl hl2 hi hN hq
    simp only [List.length_cons] at hl hl2
    rw [run_loop]
    generalize hL : XCode.loop xmfm_WriteParts_l0 = LL
    have hlt : i < N := by simp at hN; omega
    have ha := hb a (by simp)
    have e1 := byts_idx hs i pre.length hi (by simp)
    have e2 := byts_ld hs pre.length a (by simp)
    have e4 := wrI (i + 1) (by omega) (by omega)
    obtain ⟨c, rfl⟩ : ∃ c : Nat, a = (c : Int) := ⟨a.toNat, by omega⟩
    simp only [xmfm_WriteParts_l0, ofArgs, run_seq, run_block, run_ops, run_skip, run_exit, run_ret, thenQ_normal, thenQ_exit, thenQ_ret, blockQ_normal, blockQ_exit, blockQ_ret, retQ_ret, retQ_normal, ops_nil, ops_none, got_some, ops_wT, ops_wTn, ops_wF, ops_wFn, ops_wU, dops_wT, dops_wTn, dops_wF, dops_wFn, dops_wU, run_condT, run_condF, alt2_int, altB_bool, altI_int, altBB_bool, v_min, v_max, v_not, v_neg, optEv_none, optEv_some, isSome'_none, isSome'_some, pExt0, pExt1, pExt2, Bool.false_and, Bool.true_and, Bool.not_true, Bool.not_false, cond_true, cond_false, dops_nil, dops_none, xval_call, v_mov, v_bin, v_len, v_ext, v_idxA, v_ld, v_st, v_app, v_appN, v_cvs, v_bs1, pBs1, v_slc, v_conv, v_fld, v_fldA, v_new, v_box, v_mks, v_copy, v_isnil, v_nilck, v_pick, ev, evs_nil, evs_cons, fr_get_cons, fr_put_nil, fr_put_cons, fr_put_some, fr_put_none, fr_keep_nil, fr_keep_cons, fr_has_nil, fr_has_cons, Option.bind_some, Option.map_some, xbin, ibin, xresult_eq, xress_nil, xress_tmp, resV, ex_some, if_true, if_false, ite_true, ite_false, reduceIte, reduceCtorEq, Nat.reduceEqDiff, Nat.reduceLT, Nat.reduceLeDiff, Int.reduceLT, Int.reduceLE, Nat.zero_add, Nat.reduceAdd, Bool.false_eq_true, decide_eq_true_eq, decide_eq_false_iff_not, true_implies, false_implies, and_true, true_and, hlt, decide_true, e1, e2]
    refine put_w n0 H W q last c (by omega) false _ hw (by omega) ?_
    intro H' w' k'
    simp only [ofArgs, run_seq, run_block, run_ops, run_skip, run_exit, run_ret, thenQ_normal, thenQ_exit, thenQ_ret, blockQ_normal, blockQ_exit, blockQ_ret, retQ_ret, retQ_normal, ops_nil, ops_none, got_some, ops_wT, ops_wTn, ops_wF, ops_wFn, ops_wU, dops_wT, dops_wTn, dops_wF, dops_wFn, dops_wU, run_condT, run_condF, alt2_int, altB_bool, altI_int, altBB_bool, v_min, v_max, v_not, v_neg, optEv_none, optEv_some, isSome'_none, isSome'_some, pExt0, pExt1, pExt2, Bool.false_and, Bool.true_and, Bool.not_true, Bool.not_false, cond_true, cond_false, dops_nil, dops_none, xval_call, v_mov, v_bin, v_len, v_ext, v_idxA, v_ld, v_st, v_app, v_appN, v_cvs, v_bs1, pBs1, v_slc, v_conv, v_fld, v_fldA, v_new, v_box, v_mks, v_copy, v_isnil, v_nilck, v_pick, ev, evs_nil, evs_cons, fr_get_cons, fr_put_nil, fr_put_cons, fr_put_some, fr_put_none, fr_keep_nil, fr_keep_cons, fr_has_nil, fr_has_cons, Option.bind_some, Option.map_some, xbin, ibin, xresult_eq, xress_nil, xress_tmp, resV, ex_some, if_true, if_false, ite_true, ite_false, reduceIte, reduceCtorEq, Nat.reduceEqDiff, Nat.reduceLT, Nat.reduceLeDiff, Int.reduceLT, Int.reduceLE, Nat.zero_add, Nat.reduceAdd, Bool.false_eq_true, decide_eq_true_eq, decide_eq_false_iff_not, true_implies, false_implies, and_true, true_and, e4]
    subst hL
    have hWn := hw.1
    refine ih (pre ++ [(c : Int)]) (q ++ msym c false 8 last) (c.testBit 0) H' (i + 1) N Q w' (Byts.app1 (Sl.same hs k'.1 fun b hb => k'.2 b (by have := hva b hb; omega) (by have := hva b hb; omega))) (fun p hp => hb p (by simp [hp])) (by simp [msym_len]; omega) (by simp; omega) (by simp; omega) (by simpa using hN) ?_
    intro H2 w2 k2
    exact hq H2 (by simpa [syms, lastOf] using w2) (k'.trans k2)

theorem KeepB.keep {n0 W m : Nat} {A B : AH} (h : KeepB n0 W A B) (hm : m ≤ W) (hm2 : m ≤ n0) : Keep m A B := ⟨h.1, fun b hb => h.2 b (by omega) (by omega)⟩
set_option maxHeartbeats 4000000 in
theorem write1_ok (mark : Bool) (a : List Int) (vp va : Value) (cell : Int) (H : AH) (Q : Value → AH → Prop) (hp : Sl H 2 vp 1 [.bool mark, va]) (ha : Byts H va a) (h8 : B8 a) (hl : a.length ≤ 1000) (hc : 2 ≤ cell) (hc2 : cell ≤ 1000)
    (hq : ∀ v H', OwnI H.n H' v (pul cell (gaps (full mark a)).1) → HExt H H' → Q (.tuple [v, .int .i64 0].toArray) H') : Got (xc Try.prog tab 29 [vp, .int .i64 cell] H) Q := by
  refine got_call (res := [.tmp 4, .tmp 5]) rfl ?_
  simp only [ofArgs, run_seq, run_block, run_ops, run_skip, run_exit, run_ret, thenQ_normal, thenQ_exit, thenQ_ret, blockQ_normal, blockQ_exit, blockQ_ret, retQ_ret, retQ_normal, ops_nil, ops_none, got_some, ops_wT, ops_wTn, ops_wF, ops_wFn, ops_wU, dops_wT, dops_wTn, dops_wF, dops_wFn, dops_wU, run_condT, run_condF, alt2_int, altB_bool, altI_int, altBB_bool, v_min, v_max, v_not, v_neg, optEv_none, optEv_some, isSome'_none, isSome'_some, pExt0, pExt1, pExt2, Bool.false_and, Bool.true_and, Bool.not_true, Bool.not_false, cond_true, cond_false, dops_nil, dops_none, xval_call, v_mov, v_bin, v_len, v_ext, v_idxA, v_ld, v_st, v_app, v_appN, v_cvs, v_bs1, pBs1, v_slc, v_conv, v_fld, v_fldA, v_new, v_box, v_mks, v_copy, v_isnil, v_nilck, v_pick, ev, evs_nil, evs_cons, fr_get_cons, fr_put_nil, fr_put_cons, fr_put_some, fr_put_none, fr_keep_nil, fr_keep_cons, fr_has_nil, fr_has_cons, Option.bind_some, Option.map_some, xbin, ibin, xresult_eq, xress_nil, xress_tmp, resV, ex_some, if_true, if_false, ite_true, ite_false, reduceIte, reduceCtorEq, Nat.reduceEqDiff, Nat.reduceLT, Nat.reduceLeDiff, Int.reduceLT, Int.reduceLE, Nat.zero_add, Nat.reduceAdd, Bool.false_eq_true, decide_eq_true_eq, decide_eq_false_iff_not, true_implies, false_implies, and_true, true_and]
  refine size1_ok mark a vp va H _ hp ha (by omega) ?_
  intro H1 x1
  have c1 : ¬ ((a.length : Int) + (if mark then 1 else 0) > 2400) := by split <;> omega
  have hbuild : ∀ (fr : Fr) (H : AH), xval Try.prog (xc Try.prog tab) ⟨some 14, .build [.slice none 0 0, .int .i64 0, .bool false] [(2, 1, .const (.bool true))], none⟩ fr H = some (.agg #[.slice none 0 0, .int .i64 0, .bool true], H) := fun _ _ => rfl
  have ev3 : vcells (.agg #[.slice none 0 0, .int .i64 0, .bool true]) = [.slice none 0 0, .int .i64 0, .bool true] := rfl
  have x2 := hext_push H1 ⟨[.slice none 0 0, .int .i64 0, .bool true], 1, false, false⟩
  have hp1 : Sl (H1.push ⟨[.slice none 0 0, .int .i64 0, .bool true], 1, false, false⟩) 2 vp 1 [.bool mark, va] := Sl.ext x2 (Sl.ext x1 hp)
  have ha1 : Byts (H1.push ⟨[.slice none 0 0, .int .i64 0, .bool true], 1, false, false⟩) va a := Sl.ext x2 (Sl.ext x1 ha)
  have hw : Wr (H1.n + 1) (H1.push ⟨[.slice none 0 0, .int .i64 0, .bool true], 1, false, false⟩) H1.n [] true :=
    ⟨by omega, by simp, .slice none 0 0, by rw [AH.get_push, if_pos rfl]; rfl, Own.nil _ _ _⟩
  have hgW : (H1.push ⟨[.slice none 0 0, .int .i64 0, .bool true], 1, false, false⟩).get H1.n = some ⟨[.slice none 0 0, .int .i64 0, .bool true], 1, false, false⟩ := by rw [AH.get_push, if_pos rfl]
  have e0 := pLen_ok hp1
  have n1 : ((1 : Nat) : Int) = 1 := rfl
  have hn2 : (H1.push ⟨[.slice none 0 0, .int .i64 0, .bool true], 1, false, false⟩).n = H1.n + 1 := by simp
  simp only [ofArgs, run_seq, run_block, run_ops, run_skip, run_exit, run_ret, thenQ_normal, thenQ_exit, thenQ_ret, blockQ_normal, blockQ_exit, blockQ_ret, retQ_ret, retQ_normal, ops_nil, ops_none, got_some, ops_wT, ops_wTn, ops_wF, ops_wFn, ops_wU, dops_wT, dops_wTn, dops_wF, dops_wFn, dops_wU, run_condT, run_condF, alt2_int, altB_bool, altI_int, altBB_bool, v_min, v_max, v_not, v_neg, optEv_none, optEv_some, isSome'_none, isSome'_some, pExt0, pExt1, pExt2, Bool.false_and, Bool.true_and, Bool.not_true, Bool.not_false, cond_true, cond_false, dops_nil, dops_none, xval_call, v_mov, v_bin, v_len, v_ext, v_idxA, v_ld, v_st, v_app, v_appN, v_cvs, v_bs1, pBs1, v_slc, v_conv, v_fld, v_fldA, v_new, v_box, v_mks, v_copy, v_isnil, v_nilck, v_pick, ev, evs_nil, evs_cons, fr_get_cons, fr_put_nil, fr_put_cons, fr_put_some, fr_put_none, fr_keep_nil, fr_keep_cons, fr_has_nil, fr_has_cons, Option.bind_some, Option.map_some, xbin, ibin, xresult_eq, xress_nil, xress_tmp, resV, ex_some, if_true, if_false, ite_true, ite_false, reduceIte, reduceCtorEq, Nat.reduceEqDiff, Nat.reduceLT, Nat.reduceLeDiff, Int.reduceLT, Int.reduceLE, Nat.zero_add, Nat.reduceAdd, Bool.false_eq_true, decide_eq_true_eq, decide_eq_false_iff_not, true_implies, false_implies, and_true, true_and, c1, decide_false, hbuild, ev3, e0, n1]
  generalize (H1.push ⟨[.slice none 0 0, .int .i64 0, .bool true], 1, false, false⟩) = H2 at x2 hp1 ha1 hw e0 hn2 hgW
  have hxn := x1.1
  have hva : ∀ b, inB va b → b < H1.n := fun b hb => by have := Sl.lt ha hb; omega
  rw [run_loop]
  generalize hL : XCode.loop xmfm_WriteParts_l1 = LL
  obtain ⟨e1, e2⟩ := ld_part hp1
  obtain ⟨o1, o2⟩ := sl_slice ha1
  have g1 : (H2.push ⟨[.bool false, .slice none 0 0], 1, false, false⟩).get H2.n = some ⟨[.bool false, .slice none 0 0], 1, false, false⟩ := by rw [AH.get_push, if_pos rfl]
  have e3 := st2 (a' := .bool mark) (b' := va) g1 rfl o1
  have g2 : ((H2.push ⟨[.bool false, .slice none 0 0], 1, false, false⟩).set H2.n ⟨[.bool mark, va], 1, false, false⟩).get H2.n = some ⟨[.bool mark, va], 1, false, false⟩ := by rw [AH.get_set, if_pos rfl]
  have x3 := set_ext H2 ⟨[.bool false, .slice none 0 0], 1, false, false⟩ ⟨[.bool mark, va], 1, false, false⟩
  have hn3 : ((H2.push ⟨[.bool false, .slice none 0 0], 1, false, false⟩).set H2.n ⟨[.bool mark, va], 1, false, false⟩).n = H2.n + 1 := rfl
  have e4 := ld2_0 g2
  have w3 : IntKind.i64.wrap (0 + 1) = 1 := rfl
  have hg1 : H2.get H1.n = some ⟨[.slice none 0 0, .int .i64 0, .bool true], 1, false, false⟩ := hgW
  have hw3 : Wr (H2.n + 1) ((H2.push ⟨[.bool false, .slice none 0 0], 1, false, false⟩).set H2.n ⟨[.bool mark, va], 1, false, false⟩) H1.n [] true :=
    ⟨by omega, by omega, .slice none 0 0, by rw [x3.2 _ (by omega)]; exact hg1, Own.nil _ _ _⟩
  have e5 := ld2_1 g2
  have ha3 : Byts ((H2.push ⟨[.bool false, .slice none 0 0], 1, false, false⟩).set H2.n ⟨[.bool mark, va], 1, false, false⟩) va a := Sl.ext x3 ha1
  have e6 := byts_len' ha3
  have gb := full_gb mark a
  have glen := (gaps_len (full mark a)).1
  rw [full_len] at glen
  have glen2 : (gaps (full mark a)).1.length ≤ 40000 := by
    have : 2 * (8 * ((if mark then 1 else 0) + a.length) + 1) ≤ 40000 := by split <;> omega
    omega
  have hpul : ∀ (q : List Bool) (H4 : AH) (last : Bool), Wr (H2.n + 1) H4 H1.n q last → q.length ≤ 80000 → q ++ [false] ++ [true] = full mark a → KeepB (H2.n + 1) H1.n ((H2.push ⟨[.bool false, .slice none 0 0], 1, false, false⟩).set H2.n ⟨[.bool mark, va], 1, false, false⟩) H4 →
      Got (xc Try.prog tab 77 [.pointer (some ⟨H1.n, 0, none⟩), .bool false] H4) fun _ H5 => Got (xc Try.prog tab 77 [.pointer (some ⟨H1.n, 0, none⟩), .bool true] H5) fun _ H6 => ∃ vl g l2, H6.get H1.n = some ⟨[vl, g, l2], 1, false, false⟩ ∧
        Got (xc Try.prog tab 62 [vl, .int .i64 cell] H6) fun v H7 => ∃ v', v = .tuple [v', .int .i64 0].toArray ∧ Q (.tuple [v', .int .i64 0].toArray) H7 := by
    intro q H4 last w4 hql hfull k4
    refine place_w (H2.n + 1) H4 H1.n q last false _ w4 (by omega) ?_
    intro H5 w5 k5
    refine place_w (H2.n + 1) H5 H1.n _ last true _ w5 (by simp; omega) ?_
    intro H6 w6 k6
    rw [hfull] at w6
    obtain ⟨_, hn6, vl, g6, o6⟩ := w6
    refine ⟨vl, _, _, g6, ?_⟩
    refine pulses_ok _ cell vl H6 _ o6.ints glen2 hc hc2 (fun g hg => by have := gb.1 g hg; omega) ?_
    intro v' H7 o7 x7
    refine ⟨v', rfl, hq v' H7 (o7.le (by omega)) ?_⟩
    have k46 := (k4.trans (k5.trans k6)).keep (m := H.n) hxn (by omega)
    exact Keep.trans (n0 := H.n) x1 (Keep.trans (B := H2) (HExt.keep x2 hxn) (Keep.trans (HExt.keep x3 (by omega)) (k46.trans (HExt.keep x7 (by omega)))))
  have w161 : ((161 : Nat) : Int) = 161 := rfl
  cases mark
  · simp only [xmfm_WriteParts_l1, ofArgs, run_seq, run_block, run_ops, run_skip, run_exit, run_ret, thenQ_normal, thenQ_exit, thenQ_ret, blockQ_normal, blockQ_exit, blockQ_ret, retQ_ret, retQ_normal, ops_nil, ops_none, got_some, ops_wT, ops_wTn, ops_wF, ops_wFn, ops_wU, dops_wT, dops_wTn, dops_wF, dops_wFn, dops_wU, run_condT, run_condF, alt2_int, altB_bool, altI_int, altBB_bool, v_min, v_max, v_not, v_neg, optEv_none, optEv_some, isSome'_none, isSome'_some, pExt0, pExt1, pExt2, Bool.false_and, Bool.true_and, Bool.not_true, Bool.not_false, cond_true, cond_false, dops_nil, dops_none, xval_call, v_mov, v_bin, v_len, v_ext, v_idxA, v_ld, v_st, v_app, v_appN, v_cvs, v_bs1, pBs1, v_slc, v_conv, v_fld, v_fldA, v_new, v_box, v_mks, v_copy, v_isnil, v_nilck, v_pick, ev, evs_nil, evs_cons, fr_get_cons, fr_put_nil, fr_put_cons, fr_put_some, fr_put_none, fr_keep_nil, fr_keep_cons, fr_has_nil, fr_has_cons, Option.bind_some, Option.map_some, xbin, ibin, xresult_eq, xress_nil, xress_tmp, resV, ex_some, if_true, if_false, ite_true, ite_false, reduceIte, reduceCtorEq, Nat.reduceEqDiff, Nat.reduceLT, Nat.reduceLeDiff, Int.reduceLT, Int.reduceLE, Nat.zero_add, Nat.reduceAdd, Bool.false_eq_true, decide_eq_true_eq, decide_eq_false_iff_not, true_implies, false_implies, and_true, true_and, decide_true, e1, e2, e3, pFldA_ptr, e4, e5, e6]
    refine wp_l0 (H2.n + 1) H1.n va vp cell 1 0 hva a [] [] true _ 0 _ _ hw3 ha3 h8 (by simp; omega) (by simp; omega) (by simp) (by simp) ?_
    intro H4 w4 k4
    simp only [ofArgs, run_seq, run_block, run_ops, run_skip, run_exit, run_ret, thenQ_normal, thenQ_exit, thenQ_ret, blockQ_normal, blockQ_exit, blockQ_ret, retQ_ret, retQ_normal, ops_nil, ops_none, got_some, ops_wT, ops_wTn, ops_wF, ops_wFn, ops_wU, dops_wT, dops_wTn, dops_wF, dops_wFn, dops_wU, run_condT, run_condF, alt2_int, altB_bool, altI_int, altBB_bool, v_min, v_max, v_not, v_neg, optEv_none, optEv_some, isSome'_none, isSome'_some, pExt0, pExt1, pExt2, Bool.false_and, Bool.true_and, Bool.not_true, Bool.not_false, cond_true, cond_false, dops_nil, dops_none, xval_call, v_mov, v_bin, v_len, v_ext, v_idxA, v_ld, v_st, v_app, v_appN, v_cvs, v_bs1, pBs1, v_slc, v_conv, v_fld, v_fldA, v_new, v_box, v_mks, v_copy, v_isnil, v_nilck, v_pick, ev, evs_nil, evs_cons, fr_get_cons, fr_put_nil, fr_put_cons, fr_put_some, fr_put_none, fr_keep_nil, fr_keep_cons, fr_has_nil, fr_has_cons, Option.bind_some, Option.map_some, xbin, ibin, xresult_eq, xress_nil, xress_tmp, resV, ex_some, if_true, if_false, ite_true, ite_false, reduceIte, reduceCtorEq, Nat.reduceEqDiff, Nat.reduceLT, Nat.reduceLeDiff, Int.reduceLT, Int.reduceLE, Nat.zero_add, Nat.reduceAdd, Bool.false_eq_true, decide_eq_true_eq, decide_eq_false_iff_not, true_implies, false_implies, and_true, true_and, w3]
    subst hL
    rw [run_loop]
    generalize hL : XCode.loop xmfm_WriteParts_l1 = LL
    simp only [xmfm_WriteParts_l1, ofArgs, run_seq, run_block, run_ops, run_skip, run_exit, run_ret, thenQ_normal, thenQ_exit, thenQ_ret, blockQ_normal, blockQ_exit, blockQ_ret, retQ_ret, retQ_normal, ops_nil, ops_none, got_some, ops_wT, ops_wTn, ops_wF, ops_wFn, ops_wU, dops_wT, dops_wTn, dops_wF, dops_wFn, dops_wU, run_condT, run_condF, alt2_int, altB_bool, altI_int, altBB_bool, v_min, v_max, v_not, v_neg, optEv_none, optEv_some, isSome'_none, isSome'_some, pExt0, pExt1, pExt2, Bool.false_and, Bool.true_and, Bool.not_true, Bool.not_false, cond_true, cond_false, dops_nil, dops_none, xval_call, v_mov, v_bin, v_len, v_ext, v_idxA, v_ld, v_st, v_app, v_appN, v_cvs, v_bs1, pBs1, v_slc, v_conv, v_fld, v_fldA, v_new, v_box, v_mks, v_copy, v_isnil, v_nilck, v_pick, ev, evs_nil, evs_cons, fr_get_cons, fr_put_nil, fr_put_cons, fr_put_some, fr_put_none, fr_keep_nil, fr_keep_cons, fr_has_nil, fr_has_cons, Option.bind_some, Option.map_some, xbin, ibin, xresult_eq, xress_nil, xress_tmp, resV, ex_some, if_true, if_false, ite_true, ite_false, reduceIte, reduceCtorEq, Nat.reduceEqDiff, Nat.reduceLT, Nat.reduceLeDiff, Int.reduceLT, Int.reduceLE, Nat.zero_add, Nat.reduceAdd, Bool.false_eq_true, decide_eq_true_eq, decide_eq_false_iff_not, true_implies, false_implies, and_true, true_and, Int.lt_irrefl, decide_false]
    refine (hpul _ H4 _ w4 (by simp [syms_len]; omega) (by simp [full]) k4).mono ?_
    intro _ H5 g5
    refine g5.mono ?_
    rintro _ H6 ⟨vl, g, l2, g6, h6⟩
    have e7 := ld3_0 g6
    simp only [ofArgs, run_seq, run_block, run_ops, run_skip, run_exit, run_ret, thenQ_normal, thenQ_exit, thenQ_ret, blockQ_normal, blockQ_exit, blockQ_ret, retQ_ret, retQ_normal, ops_nil, ops_none, got_some, ops_wT, ops_wTn, ops_wF, ops_wFn, ops_wU, dops_wT, dops_wTn, dops_wF, dops_wFn, dops_wU, run_condT, run_condF, alt2_int, altB_bool, altI_int, altBB_bool, v_min, v_max, v_not, v_neg, optEv_none, optEv_some, isSome'_none, isSome'_some, pExt0, pExt1, pExt2, Bool.false_and, Bool.true_and, Bool.not_true, Bool.not_false, cond_true, cond_false, dops_nil, dops_none, xval_call, v_mov, v_bin, v_len, v_ext, v_idxA, v_ld, v_st, v_app, v_appN, v_cvs, v_bs1, pBs1, v_slc, v_conv, v_fld, v_fldA, v_new, v_box, v_mks, v_copy, v_isnil, v_nilck, v_pick, ev, evs_nil, evs_cons, fr_get_cons, fr_put_nil, fr_put_cons, fr_put_some, fr_put_none, fr_keep_nil, fr_keep_cons, fr_has_nil, fr_has_cons, Option.bind_some, Option.map_some, xbin, ibin, xresult_eq, xress_nil, xress_tmp, resV, ex_some, if_true, if_false, ite_true, ite_false, reduceIte, reduceCtorEq, Nat.reduceEqDiff, Nat.reduceLT, Nat.reduceLeDiff, Int.reduceLT, Int.reduceLE, Nat.zero_add, Nat.reduceAdd, Bool.false_eq_true, decide_eq_true_eq, decide_eq_false_iff_not, true_implies, false_implies, and_true, true_and, pNil_ptr, pFldA_ptr, e7]
    refine h6.mono ?_
    rintro v H7 ⟨v', rfl, hQ⟩
    simp only [ofArgs, run_seq, run_block, run_ops, run_skip, run_exit, run_ret, thenQ_normal, thenQ_exit, thenQ_ret, blockQ_normal, blockQ_exit, blockQ_ret, retQ_ret, retQ_normal, ops_nil, ops_none, got_some, ops_wT, ops_wTn, ops_wF, ops_wFn, ops_wU, dops_wT, dops_wTn, dops_wF, dops_wFn, dops_wU, run_condT, run_condF, alt2_int, altB_bool, altI_int, altBB_bool, v_min, v_max, v_not, v_neg, optEv_none, optEv_some, isSome'_none, isSome'_some, pExt0, pExt1, pExt2, Bool.false_and, Bool.true_and, Bool.not_true, Bool.not_false, cond_true, cond_false, dops_nil, dops_none, xval_call, v_mov, v_bin, v_len, v_ext, v_idxA, v_ld, v_st, v_app, v_appN, v_cvs, v_bs1, pBs1, v_slc, v_conv, v_fld, v_fldA, v_new, v_box, v_mks, v_copy, v_isnil, v_nilck, v_pick, ev, evs_nil, evs_cons, fr_get_cons, fr_put_nil, fr_put_cons, fr_put_some, fr_put_none, fr_keep_nil, fr_keep_cons, fr_has_nil, fr_has_cons, Option.bind_some, Option.map_some, xbin, ibin, xresult_eq, xress_nil, xress_tmp, resV, ex_some, if_true, if_false, ite_true, ite_false, reduceIte, reduceCtorEq, Nat.reduceEqDiff, Nat.reduceLT, Nat.reduceLeDiff, Int.reduceLT, Int.reduceLE, Nat.zero_add, Nat.reduceAdd, Bool.false_eq_true, decide_eq_true_eq, decide_eq_false_iff_not, true_implies, false_implies, and_true, true_and]
    exact hQ
  · simp only [xmfm_WriteParts_l1, ofArgs, run_seq, run_block, run_ops, run_skip, run_exit, run_ret, thenQ_normal, thenQ_exit, thenQ_ret, blockQ_normal, blockQ_exit, blockQ_ret, retQ_ret, retQ_normal, ops_nil, ops_none, got_some, ops_wT, ops_wTn, ops_wF, ops_wFn, ops_wU, dops_wT, dops_wTn, dops_wF, dops_wFn, dops_wU, run_condT, run_condF, alt2_int, altB_bool, altI_int, altBB_bool, v_min, v_max, v_not, v_neg, optEv_none, optEv_some, isSome'_none, isSome'_some, pExt0, pExt1, pExt2, Bool.false_and, Bool.true_and, Bool.not_true, Bool.not_false, cond_true, cond_false, dops_nil, dops_none, xval_call, v_mov, v_bin, v_len, v_ext, v_idxA, v_ld, v_st, v_app, v_appN, v_cvs, v_bs1, pBs1, v_slc, v_conv, v_fld, v_fldA, v_new, v_box, v_mks, v_copy, v_isnil, v_nilck, v_pick, ev, evs_nil, evs_cons, fr_get_cons, fr_put_nil, fr_put_cons, fr_put_some, fr_put_none, fr_keep_nil, fr_keep_cons, fr_has_nil, fr_has_cons, Option.bind_some, Option.map_some, xbin, ibin, xresult_eq, xress_nil, xress_tmp, resV, ex_some, if_true, if_false, ite_true, ite_false, reduceIte, reduceCtorEq, Nat.reduceEqDiff, Nat.reduceLT, Nat.reduceLeDiff, Int.reduceLT, Int.reduceLE, Nat.zero_add, Nat.reduceAdd, Bool.false_eq_true, decide_eq_true_eq, decide_eq_false_iff_not, true_implies, false_implies, and_true, true_and, decide_true, e1, e2, e3, pFldA_ptr, e4]
    rw [← w161]
    refine put_w (H2.n + 1) _ H1.n [] true 161 (by omega) true _ hw3 (by simp) ?_
    intro H3 w3' k3
    have g3 : H3.get H2.n = some ⟨[.bool true, va], 1, false, false⟩ := by rw [k3.2 _ (by omega) (by omega)]; exact g2
    have e8 := ld2_1 g3
    have ha4 : Byts H3 va a := Sl.same ha3 k3.1 fun b hb => k3.2 b (by have := hva b hb; omega) (by have := hva b hb; omega)
    have e9 := byts_len' ha4
    simp only [ofArgs, run_seq, run_block, run_ops, run_skip, run_exit, run_ret, thenQ_normal, thenQ_exit, thenQ_ret, blockQ_normal, blockQ_exit, blockQ_ret, retQ_ret, retQ_normal, ops_nil, ops_none, got_some, ops_wT, ops_wTn, ops_wF, ops_wFn, ops_wU, dops_wT, dops_wTn, dops_wF, dops_wFn, dops_wU, run_condT, run_condF, alt2_int, altB_bool, altI_int, altBB_bool, v_min, v_max, v_not, v_neg, optEv_none, optEv_some, isSome'_none, isSome'_some, pExt0, pExt1, pExt2, Bool.false_and, Bool.true_and, Bool.not_true, Bool.not_false, cond_true, cond_false, dops_nil, dops_none, xval_call, v_mov, v_bin, v_len, v_ext, v_idxA, v_ld, v_st, v_app, v_appN, v_cvs, v_bs1, pBs1, v_slc, v_conv, v_fld, v_fldA, v_new, v_box, v_mks, v_copy, v_isnil, v_nilck, v_pick, ev, evs_nil, evs_cons, fr_get_cons, fr_put_nil, fr_put_cons, fr_put_some, fr_put_none, fr_keep_nil, fr_keep_cons, fr_has_nil, fr_has_cons, Option.bind_some, Option.map_some, xbin, ibin, xresult_eq, xress_nil, xress_tmp, resV, ex_some, if_true, if_false, ite_true, ite_false, reduceIte, reduceCtorEq, Nat.reduceEqDiff, Nat.reduceLT, Nat.reduceLeDiff, Int.reduceLT, Int.reduceLE, Nat.zero_add, Nat.reduceAdd, Bool.false_eq_true, decide_eq_true_eq, decide_eq_false_iff_not, true_implies, false_implies, and_true, true_and, pFldA_ptr, e8, e9]
    have e161 : (161 : Nat).testBit 0 = true := by decide
    rw [e161] at w3'
    refine wp_l0 (H2.n + 1) H1.n va vp cell 1 0 hva a [] _ true _ 0 _ _ w3' ha4 h8 (by simp [msym_len]; omega) (by simp; omega) (by simp) (by simp) ?_
    intro H4 w4 k4
    simp only [ofArgs, run_seq, run_block, run_ops, run_skip, run_exit, run_ret, thenQ_normal, thenQ_exit, thenQ_ret, blockQ_normal, blockQ_exit, blockQ_ret, retQ_ret, retQ_normal, ops_nil, ops_none, got_some, ops_wT, ops_wTn, ops_wF, ops_wFn, ops_wU, dops_wT, dops_wTn, dops_wF, dops_wFn, dops_wU, run_condT, run_condF, alt2_int, altB_bool, altI_int, altBB_bool, v_min, v_max, v_not, v_neg, optEv_none, optEv_some, isSome'_none, isSome'_some, pExt0, pExt1, pExt2, Bool.false_and, Bool.true_and, Bool.not_true, Bool.not_false, cond_true, cond_false, dops_nil, dops_none, xval_call, v_mov, v_bin, v_len, v_ext, v_idxA, v_ld, v_st, v_app, v_appN, v_cvs, v_bs1, pBs1, v_slc, v_conv, v_fld, v_fldA, v_new, v_box, v_mks, v_copy, v_isnil, v_nilck, v_pick, ev, evs_nil, evs_cons, fr_get_cons, fr_put_nil, fr_put_cons, fr_put_some, fr_put_none, fr_keep_nil, fr_keep_cons, fr_has_nil, fr_has_cons, Option.bind_some, Option.map_some, xbin, ibin, xresult_eq, xress_nil, xress_tmp, resV, ex_some, if_true, if_false, ite_true, ite_false, reduceIte, reduceCtorEq, Nat.reduceEqDiff, Nat.reduceLT, Nat.reduceLeDiff, Int.reduceLT, Int.reduceLE, Nat.zero_add, Nat.reduceAdd, Bool.false_eq_true, decide_eq_true_eq, decide_eq_false_iff_not, true_implies, false_implies, and_true, true_and, w3]
    subst hL
    rw [run_loop]
    generalize hL : XCode.loop xmfm_WriteParts_l1 = LL
    simp only [xmfm_WriteParts_l1, ofArgs, run_seq, run_block, run_ops, run_skip, run_exit, run_ret, thenQ_normal, thenQ_exit, thenQ_ret, blockQ_normal, blockQ_exit, blockQ_ret, retQ_ret, retQ_normal, ops_nil, ops_none, got_some, ops_wT, ops_wTn, ops_wF, ops_wFn, ops_wU, dops_wT, dops_wTn, dops_wF, dops_wFn, dops_wU, run_condT, run_condF, alt2_int, altB_bool, altI_int, altBB_bool, v_min, v_max, v_not, v_neg, optEv_none, optEv_some, isSome'_none, isSome'_some, pExt0, pExt1, pExt2, Bool.false_and, Bool.true_and, Bool.not_true, Bool.not_false, cond_true, cond_false, dops_nil, dops_none, xval_call, v_mov, v_bin, v_len, v_ext, v_idxA, v_ld, v_st, v_app, v_appN, v_cvs, v_bs1, pBs1, v_slc, v_conv, v_fld, v_fldA, v_new, v_box, v_mks, v_copy, v_isnil, v_nilck, v_pick, ev, evs_nil, evs_cons, fr_get_cons, fr_put_nil, fr_put_cons, fr_put_some, fr_put_none, fr_keep_nil, fr_keep_cons, fr_has_nil, fr_has_cons, Option.bind_some, Option.map_some, xbin, ibin, xresult_eq, xress_nil, xress_tmp, resV, ex_some, if_true, if_false, ite_true, ite_false, reduceIte, reduceCtorEq, Nat.reduceEqDiff, Nat.reduceLT, Nat.reduceLeDiff, Int.reduceLT, Int.reduceLE, Nat.zero_add, Nat.reduceAdd, Bool.false_eq_true, decide_eq_true_eq, decide_eq_false_iff_not, true_implies, false_implies, and_true, true_and, Int.lt_irrefl, decide_false]
    refine (hpul _ H4 _ w4 (by simp [syms_len, msym_len]; omega) (by simp [full]) (k3.trans k4)).mono ?_
    intro _ H5 g5
    refine g5.mono ?_
    rintro _ H6 ⟨vl, g, l2, g6, h6⟩
    have e7 := ld3_0 g6
    simp only [ofArgs, run_seq, run_block, run_ops, run_skip, run_exit, run_ret, thenQ_normal, thenQ_exit, thenQ_ret, blockQ_normal, blockQ_exit, blockQ_ret, retQ_ret, retQ_normal, ops_nil, ops_none, got_some, ops_wT, ops_wTn, ops_wF, ops_wFn, ops_wU, dops_wT, dops_wTn, dops_wF, dops_wFn, dops_wU, run_condT, run_condF, alt2_int, altB_bool, altI_int, altBB_bool, v_min, v_max, v_not, v_neg, optEv_none, optEv_some, isSome'_none, isSome'_some, pExt0, pExt1, pExt2, Bool.false_and, Bool.true_and, Bool.not_true, Bool.not_false, cond_true, cond_false, dops_nil, dops_none, xval_call, v_mov, v_bin, v_len, v_ext, v_idxA, v_ld, v_st, v_app, v_appN, v_cvs, v_bs1, pBs1, v_slc, v_conv, v_fld, v_fldA, v_new, v_box, v_mks, v_copy, v_isnil, v_nilck, v_pick, ev, evs_nil, evs_cons, fr_get_cons, fr_put_nil, fr_put_cons, fr_put_some, fr_put_none, fr_keep_nil, fr_keep_cons, fr_has_nil, fr_has_cons, Option.bind_some, Option.map_some, xbin, ibin, xresult_eq, xress_nil, xress_tmp, resV, ex_some, if_true, if_false, ite_true, ite_false, reduceIte, reduceCtorEq, Nat.reduceEqDiff, Nat.reduceLT, Nat.reduceLeDiff, Int.reduceLT, Int.reduceLE, Nat.zero_add, Nat.reduceAdd, Bool.false_eq_true, decide_eq_true_eq, decide_eq_false_iff_not, true_implies, false_implies, and_true, true_and, pNil_ptr, pFldA_ptr, e7]
    refine h6.mono ?_
    rintro v H7 ⟨v', rfl, hQ⟩
    simp only [ofArgs, run_seq, run_block, run_ops, run_skip, run_exit, run_ret, thenQ_normal, thenQ_exit, thenQ_ret, blockQ_normal, blockQ_exit, blockQ_ret, retQ_ret, retQ_normal, ops_nil, ops_none, got_some, ops_wT, ops_wTn, ops_wF, ops_wFn, ops_wU, dops_wT, dops_wTn, dops_wF, dops_wFn, dops_wU, run_condT, run_condF, alt2_int, altB_bool, altI_int, altBB_bool, v_min, v_max, v_not, v_neg, optEv_none, optEv_some, isSome'_none, isSome'_some, pExt0, pExt1, pExt2, Bool.false_and, Bool.true_and, Bool.not_true, Bool.not_false, cond_true, cond_false, dops_nil, dops_none, xval_call, v_mov, v_bin, v_len, v_ext, v_idxA, v_ld, v_st, v_app, v_appN, v_cvs, v_bs1, pBs1, v_slc, v_conv, v_fld, v_fldA, v_new, v_box, v_mks, v_copy, v_isnil, v_nilck, v_pick, ev, evs_nil, evs_cons, fr_get_cons, fr_put_nil, fr_put_cons, fr_put_some, fr_put_none, fr_keep_nil, fr_keep_cons, fr_has_nil, fr_has_cons, Option.bind_some, Option.map_some, xbin, ibin, xresult_eq, xress_nil, xress_tmp, resV, ex_some, if_true, if_false, ite_true, ite_false, reduceIte, reduceCtorEq, Nat.reduceEqDiff, Nat.reduceLT, Nat.reduceLeDiff, Int.reduceLT, Int.reduceLE, Nat.zero_add, Nat.reduceAdd, Bool.false_eq_true, decide_eq_true_eq, decide_eq_false_iff_not, true_implies, false_implies, and_true, true_and]
    exact hQ
end Go.Proofs.Ytejedmocjdcdgaa.D

set_option linter.unusedSimpArgs false
set_option linter.unusedVariables false
namespace Go.Proofs.Ytejedmocjdcdgaa.D
open Go Go.Det

theorem flat_neb {P : Program} {fr : Fr} {H : AH} (x y : Operand) (t t' ty : TypeId) (a b : Bool) (hu : P.underlying t = some .bool) (hx : ev fr x = some (.bool a)) (hy : ev fr y = some (.bool b)) : xop P fr H (.flat (.binOp .neq t x y ty) t') = some (.bool (!(a == b)), H) := by
  refine flat_eq ?_ ?_ rfl
  · simp [Op.operands, evFlat, hx, hy, flatD]
  · simp [execOp, flatOper, hx, hy, eqGuard, binOp, Op.equal, show Op.maxDepth = 9999 + 1 from rfl, pureRun_bind, pureRun_map, pureRun_pure, pureRun_eqb 9999 a b hu]
theorem v_neb {P : Program} {T : XTab} {fr : Fr} {H : AH} {t : TypeId} (hu : P.underlying t = some .bool) (dd : Option Nat) (x y : Operand) (t' ty : TypeId) : xval P (xc P T) ⟨dd, .flat (.binOp .neq t x y ty) t', none⟩ fr H =
    altBB (ev fr x) (ev fr y) (fun a b => some (.bool (!(a == b)), H)) (xop P fr H (.flat (.binOp .neq t x y ty) t')) := by
  rw [xval_op dd _ fr H rfl]
  unfold altBB
  split
  · rename_i a b h1 h2; exact flat_neb x y t t' ty a b hu h1 h2
  · rfl

/-! ### the bits of lengths -/
def Boos (H : AH) (v : Value) (l : List Bool) : Prop := Sl H 1 v l.length (l.map .bool)
def OwnO (n0 : Nat) (H : AH) (v : Value) (l : List Bool) : Prop := Own n0 1 H v l.length (l.map .bool)
theorem boos_idx {H : AH} {s : Value} {l : List Bool} (h : Boos H s l) (i : Int) (k : Nat) (hi : i = (k : Int)) (hk : k < l.length) : pIdx 1 s (.int .i64 i) H = some (ptrAt s k, H) := pIdx_one h .i64 i k hi hk
theorem boos_ld {H : AH} {s : Value} {l : List Bool} (h : Boos H s l) (k : Nat) (a : Bool) (ha : l[k]? = some a) : pLd none (ptrAt s k) H = some (.bool a, H) := pLd_one h k _ (by simp [ha])
theorem boos_len {H : AH} {s : Value} {l : List Bool} (hs : Boos H s l) : pLen s H = some (.int .i64 (l.length : Int), H) := pLen_ok hs
def dataL (p : Nat) (q : List Bool) (n : Nat) : List Bool := (List.range n).map fun i => decide (2 * i + 1 < p) && q.getD (2 * i + 1) false
def clockL (p : Nat) (q : List Bool) (n : Nat) : List Bool := (List.range n).map fun i => decide (2 * i < p) && q.getD (2 * i) false
theorem dataL_len (p : Nat) (q : List Bool) (n : Nat) : (dataL p q n).length = n := by simp [dataL]
theorem clockL_len (p : Nat) (q : List Bool) (n : Nat) : (clockL p q n).length = n := by simp [clockL]
theorem dataL_get (p : Nat) (q : List Bool) (n i : Nat) (hi : i < n) : (dataL p q n)[i]? = some (decide (2 * i + 1 < p) && q.getD (2 * i + 1) false) := by simp [dataL, hi]
theorem clockL_get (p : Nat) (q : List Bool) (n i : Nat) (hi : i < n) : (clockL p q n)[i]? = some (decide (2 * i < p) && q.getD (2 * i) false) := by simp [clockL, hi]
theorem dataL_none (p : Nat) (q : List Bool) (n i : Nat) (hi : n ≤ i) : (dataL p q n)[i]? = none := List.getElem?_eq_none (by rw [dataL_len]; exact hi)
theorem clockL_none (p : Nat) (q : List Bool) (n i : Nat) (hi : n ≤ i) : (clockL p q n)[i]? = none := List.getElem?_eq_none (by rw [clockL_len]; exact hi)
theorem step_even (q : List Bool) (n p g : Nat) (hg : 1 ≤ g) (h1 : ∀ j, p ≤ j → j < p + g - 1 → q.getD j false = false) (h2 : q.getD (p + g - 1) false = true) (hn : p + g ≤ 2 * n) (he : (p + g) % 2 = 0) :
    dataL (p + g) q n = (dataL p q n).set ((p + g) / 2 - 1) true ∧ clockL (p + g) q n = clockL p q n := by
  constructor
  · apply List.ext_getElem?
    intro i
    rcases Nat.lt_or_ge i n with hi | hi
    · rw [dataL_get _ _ _ _ hi]
      by_cases hk : (p + g) / 2 - 1 = i
      · subst hk
        rw [List.getElem?_set_self (by rw [dataL_len]; exact hi)]
        have e : 2 * ((p + g) / 2 - 1) + 1 = p + g - 1 := by omega
        rw [e, h2]
        have : p + g - 1 < p + g := by omega
        simp [this]
      · rw [List.getElem?_set_ne hk, dataL_get _ _ _ _ hi]
        by_cases c1 : 2 * i + 1 < p
        · have c2 : 2 * i + 1 < p + g := by omega
          simp [c1, c2]
        · by_cases c2 : 2 * i + 1 < p + g
          · rw [h1 (2 * i + 1) (by omega) (by omega)]; simp
          · simp [c1, c2]
    · rw [dataL_none _ _ _ _ hi, List.getElem?_eq_none (by simp [dataL_len]; exact hi)]
  · apply List.ext_getElem?
    intro i
    rcases Nat.lt_or_ge i n with hi | hi
    · rw [clockL_get _ _ _ _ hi, clockL_get _ _ _ _ hi]
      by_cases c1 : 2 * i < p
      · have c2 : 2 * i < p + g := by omega
        simp [c1, c2]
      · by_cases c2 : 2 * i < p + g
        · rw [h1 (2 * i) (by omega) (by omega)]; simp
        · simp [c1, c2]
    · rw [clockL_none _ _ _ _ hi, clockL_none _ _ _ _ hi]
theorem step_odd (q : List Bool) (n p g : Nat) (hg : 1 ≤ g) (h1 : ∀ j, p ≤ j → j < p + g - 1 → q.getD j false = false) (h2 : q.getD (p + g - 1) false = true) (hn : p + g ≤ 2 * n) (he : ¬ (p + g) % 2 = 0) :
    clockL (p + g) q n = (clockL p q n).set ((p + g) / 2) true ∧ dataL (p + g) q n = dataL p q n := by
  constructor
  · apply List.ext_getElem?
    intro i
    rcases Nat.lt_or_ge i n with hi | hi
    · rw [clockL_get _ _ _ _ hi]
      by_cases hk : (p + g) / 2 = i
      · subst hk
        rw [List.getElem?_set_self (by rw [clockL_len]; exact hi)]
        have e : 2 * ((p + g) / 2) = p + g - 1 := by omega
        rw [e, h2]
        have : p + g - 1 < p + g := by omega
        simp [this]
      · rw [List.getElem?_set_ne hk, clockL_get _ _ _ _ hi]
        by_cases c1 : 2 * i < p
        · have c2 : 2 * i < p + g := by omega
          simp [c1, c2]
        · by_cases c2 : 2 * i < p + g
          · rw [h1 (2 * i) (by omega) (by omega)]; simp
          · simp [c1, c2]
    · rw [clockL_none _ _ _ _ hi, List.getElem?_eq_none (by simp [clockL_len]; exact hi)]
  · apply List.ext_getElem?
    intro i
    rcases Nat.lt_or_ge i n with hi | hi
    · rw [dataL_get _ _ _ _ hi, dataL_get _ _ _ _ hi]
      by_cases c1 : 2 * i + 1 < p
      · have c2 : 2 * i + 1 < p + g := by omega
        simp [c1, c2]
      · by_cases c2 : 2 * i + 1 < p + g
        · rw [h1 (2 * i + 1) (by omega) (by omega)]; simp
        · simp [c1, c2]
    · rw [dataL_none _ _ _ _ hi, dataL_none _ _ _ _ hi]

theorem expand_len (l : List Int) (h : ∀ g ∈ l, 1 ≤ g) : ((expand l).length : Int) = l.sum := by
  induction l with
  | nil => rfl
  | cons g l ih =>
    have hg := h g (by simp)
    have := ih (fun x hx => h x (by simp [hx]))
    simp only [expand, List.length_append, List.length_replicate, List.length_cons, List.sum_cons]
    omega
theorem sum_nonneg (l : List Int) (h : ∀ g ∈ l, 1 ≤ g) : 0 ≤ l.sum := by
  induction l with
  | nil => simp
  | cons g l ih =>
    have hg := h g (by simp)
    have := ih (fun x hx => h x (by simp [hx]))
    rw [List.sum_cons]; omega

theorem bits_l0 (vl : Value) (H : AH) (rest : List Int) : ∀ (pre : List Int) (x i N : Int) (Q : XExit → Fr → AH → Prop), Ints H vl (pre ++ rest) → (∀ g ∈ rest, 1 ≤ g) → 0 ≤ x → x + rest.sum ≤ 1000000 → pre.length + rest.length ≤ 40000 → i = (pre.length : Int) → N = ((pre ++ rest).length : Int) →
    Q (.exit 0) [(0, vl), (5, .int .i64 (x + rest.sum)), (13, vl), (14, .int .i64 N), (15, .int .i64 N), (16, .bool false)] H → Run Try.prog tab (.loop xmfm_bits_l0) [(0, vl), (5, .int .i64 x), (13, vl), (14, .int .i64 N), (15, .int .i64 i)] H Q := by
  induction rest with
  | nil =>
    intro pre x i N Q hs hp hx hx2 hl hi hN hq
    rw [run_loop]
    generalize hL : XCode.loop xmfm_bits_l0 = LL
    have hiN : i = N := by simp at hN; omega
    subst hiN
    have hf : ¬ i < i := by omega
    simp only [xmfm_bits_l0, ofArgs, run_seq, run_block, run_ops, run_skip, run_exit, run_ret, thenQ_normal, thenQ_exit, thenQ_ret, blockQ_normal, blockQ_exit, blockQ_ret, retQ_ret, retQ_normal, ops_nil, ops_none, got_some, ops_wT, ops_wTn, ops_wF, ops_wFn, ops_wU, dops_wT, dops_wTn, dops_wF, dops_wFn, dops_wU, run_condT, run_condF, alt2_int, altB_bool, altI_int, altBB_bool, v_min, v_max, v_not, v_neg, optEv_none, optEv_some, isSome'_none, isSome'_some, pExt0, pExt1, pExt2, Bool.false_and, Bool.true_and, Bool.not_true, Bool.not_false, cond_true, cond_false, dops_nil, dops_none, xval_call, v_mov, v_bin, v_len, v_ext, v_idxA, v_ld, v_st, v_app, v_appN, v_cvs, v_bs1, pBs1, v_slc, v_conv, v_fld, v_fldA, v_new, v_box, v_mks, v_copy, v_isnil, v_nilck, v_pick, ev, evs_nil, evs_cons, fr_get_cons, fr_put_nil, fr_put_cons, fr_put_some, fr_put_none, fr_keep_nil, fr_keep_cons, fr_has_nil, fr_has_cons, Option.bind_some, Option.map_some, xbin, ibin, xresult_eq, xress_nil, xress_tmp, resV, ex_some, if_true, if_false, ite_true, ite_false, reduceIte, reduceCtorEq, Nat.reduceEqDiff, Nat.reduceLT, Nat.reduceLeDiff, Int.reduceLT, Int.reduceLE, Nat.zero_add, Nat.reduceAdd, Bool.false_eq_true, decide_eq_true_eq, decide_eq_false_iff_not, true_implies, false_implies, and_true, true_and, hf, decide_false]
    simpa using hq
  | cons a rest ih =>
    intro pre x i N Q hs hp hx hx2 hl hi hN hq
    simp only [List.length_cons] at hl
    rw [run_loop]
    generalize hL : XCode.loop xmfm_bits_l0 = LL
    have hlt : i < N := by simp at hN; omega
    have ha := hp a (by simp)
    have hsn := sum_nonneg rest (fun g hg => hp g (by simp [hg]))
    rw [List.sum_cons] at hx2 hq
    have e1 := ints_idx hs i pre.length hi (by simp)
    have e2 := ints_ld hs pre.length a (by simp)
    have e4 := wrI (i + 1) (by omega) (by omega)
    have e3 := wrI (x + a) (by omega) (by omega)
    simp only [xmfm_bits_l0, ofArgs, run_seq, run_block, run_ops, run_skip, run_exit, run_ret, thenQ_normal, thenQ_exit, thenQ_ret, blockQ_normal, blockQ_exit, blockQ_ret, retQ_ret, retQ_normal, ops_nil, ops_none, got_some, ops_wT, ops_wTn, ops_wF, ops_wFn, ops_wU, dops_wT, dops_wTn, dops_wF, dops_wFn, dops_wU, run_condT, run_condF, alt2_int, altB_bool, altI_int, altBB_bool, v_min, v_max, v_not, v_neg, optEv_none, optEv_some, isSome'_none, isSome'_some, pExt0, pExt1, pExt2, Bool.false_and, Bool.true_and, Bool.not_true, Bool.not_false, cond_true, cond_false, dops_nil, dops_none, xval_call, v_mov, v_bin, v_len, v_ext, v_idxA, v_ld, v_st, v_app, v_appN, v_cvs, v_bs1, pBs1, v_slc, v_conv, v_fld, v_fldA, v_new, v_box, v_mks, v_copy, v_isnil, v_nilck, v_pick, ev, evs_nil, evs_cons, fr_get_cons, fr_put_nil, fr_put_cons, fr_put_some, fr_put_none, fr_keep_nil, fr_keep_cons, fr_has_nil, fr_has_cons, Option.bind_some, Option.map_some, xbin, ibin, xresult_eq, xress_nil, xress_tmp, resV, ex_some, if_true, if_false, ite_true, ite_false, reduceIte, reduceCtorEq, Nat.reduceEqDiff, Nat.reduceLT, Nat.reduceLeDiff, Int.reduceLT, Int.reduceLE, Nat.zero_add, Nat.reduceAdd, Bool.false_eq_true, decide_eq_true_eq, decide_eq_false_iff_not, true_implies, false_implies, and_true, true_and, hlt, decide_true, e1, e2, e3, e4]
    subst hL
    refine ih (pre ++ [a]) (x + a) (i + 1) N Q (Ints.app1 hs) (fun g hg => hp g (by simp [hg])) (by omega) (by omega) (by simp; omega) (by simp; omega) (by simpa using hN) ?_
    rw [Int.add_assoc]; exact hq

theorem OwnO.set' {n0 : Nat} {H : AH} {v : Value} {l : List Bool} {k : Nat} {Q : Value → AH → Prop} (ho : OwnO n0 H v l) (hk : k < l.length) (hq : ∀ H', OwnO n0 H' v (l.set k true) → Stp v H v H' → Q undef H') : Got (pSt 1 (ptrAt v k) (.bool true) H) Q := by
  refine pSt_own ho (by simpa using hk) rfl rfl ?_
  intro H' o s
  refine hq H' ?_ s
  unfold OwnO
  rw [List.length_set, List.map_set]
  exact o

theorem bits_l1 (n0 : Nat) (vl vd vc : Value) (tot : Int) (q : List Bool) (n : Nat) (hn : n ≤ 100000) (hq2 : q.length = 2 * n) (hvl : ∀ b, inB vl b → b < n0) (hdis : ∀ b, inB vc b → ¬ inB vd b) (rest : List Int) : ∀ (pre : List Int) (H : AH) (p : Nat) (i N : Int) (Q : XExit → Fr → AH → Prop), Ints H vl (pre ++ rest) → (∀ g ∈ pre ++ rest, 1 ≤ g) → q = expand (pre ++ rest) → p = (expand pre).length → OwnO n0 H vd (dataL p q n) → OwnO n0 H vc (clockL p q n) → n0 ≤ H.n → pre.length + rest.length ≤ 40000 → i = (pre.length : Int) → N = ((pre ++ rest).length : Int) →
    (∀ H', OwnO n0 H' vd (dataL (2 * n) q n) → OwnO n0 H' vc (clockL (2 * n) q n) → Keep n0 H H' → Q (.exit 2) [(5, .int .i64 tot), (8, vd), (9, vc), (10, .int .i64 (2 * n : Nat)), (36, vl), (37, .int .i64 N), (38, .int .i64 N), (39, .bool false)] H') →
    Run Try.prog tab (.loop xmfm_bits_l1) [(5, .int .i64 tot), (8, vd), (9, vc), (10, .int .i64 p), (36, vl), (37, .int .i64 N), (38, .int .i64 i)] H Q := by
  have hdis2 : ∀ b, inB vd b → ¬ inB vc b := fun b h1 h2 => hdis b h2 h1
  induction rest with
  | nil =>
    intro pre H p i N Q hs hp hqe hpe hd hc hnn hl hi hN hq
    rw [run_loop]
    generalize hL : XCode.loop xmfm_bits_l1 = LL
    have hiN : i = N := by simp at hN; omega
    subst hiN
    have hf : ¬ i < i := by omega
    have hp2 : p = 2 * n := by rw [hpe, ← hq2, hqe, List.append_nil]
    subst hp2
    simp only [xmfm_bits_l1, ofArgs, run_seq, run_block, run_ops, run_skip, run_exit, run_ret, thenQ_normal, thenQ_exit, thenQ_ret, blockQ_normal, blockQ_exit, blockQ_ret, retQ_ret, retQ_normal, ops_nil, ops_none, got_some, ops_wT, ops_wTn, ops_wF, ops_wFn, ops_wU, dops_wT, dops_wTn, dops_wF, dops_wFn, dops_wU, run_condT, run_condF, alt2_int, altB_bool, altI_int, altBB_bool, v_min, v_max, v_not, v_neg, optEv_none, optEv_some, isSome'_none, isSome'_some, pExt0, pExt1, pExt2, Bool.false_and, Bool.true_and, Bool.not_true, Bool.not_false, cond_true, cond_false, dops_nil, dops_none, xval_call, v_mov, v_bin, v_len, v_ext, v_idxA, v_ld, v_st, v_app, v_appN, v_cvs, v_bs1, pBs1, v_slc, v_conv, v_fld, v_fldA, v_new, v_box, v_mks, v_copy, v_isnil, v_nilck, v_pick, ev, evs_nil, evs_cons, fr_get_cons, fr_put_nil, fr_put_cons, fr_put_some, fr_put_none, fr_keep_nil, fr_keep_cons, fr_has_nil, fr_has_cons, Option.bind_some, Option.map_some, xbin, ibin, xresult_eq, xress_nil, xress_tmp, resV, ex_some, if_true, if_false, ite_true, ite_false, reduceIte, reduceCtorEq, Nat.reduceEqDiff, Nat.reduceLT, Nat.reduceLeDiff, Int.reduceLT, Int.reduceLE, Nat.zero_add, Nat.reduceAdd, Bool.false_eq_true, decide_eq_true_eq, decide_eq_false_iff_not, true_implies, false_implies, and_true, true_and, hf, decide_false]
    exact hq H hd hc (.refl _ _)
  | cons a rest ih =>
    intro pre H p i N Q hs hp hqe hpe hd hc hnn hl hi hN hq
    have ih' := ih (pre ++ [a])
    simp only [List.length_cons] at hl
    rw [run_loop]
    generalize hL : XCode.loop xmfm_bits_l1 = LL
    rw [hL] at ih'
    have hlt : i < N := by simp at hN; omega
    have ha := hp a (by simp)
    obtain ⟨g, rfl⟩ : ∃ g : Nat, a = (g : Int) := ⟨a.toNat, by omega⟩
    have hg1 : 1 ≤ g := by omega
    have hpre : expand (pre ++ [(g : Int)]) = expand pre ++ (List.replicate (g - 1) false ++ [true]) := by rw [expand_app]; simp [expand]
    have hplen : p + g = (expand (pre ++ [(g : Int)])).length := by rw [hpre]; simp; omega
    have hqs : q = expand pre ++ ((List.replicate (g - 1) false ++ [true]) ++ expand rest) := by rw [hqe, expand_app]; simp [expand]
    have hpn : p + g ≤ 2 * n := by rw [← hq2, hqs]; simp; omega
    have h1 : ∀ j, p ≤ j → j < p + g - 1 → q.getD j false = false := by
      intro j hj1 hj2
      rw [hqs, List.getD_eq_getElem?_getD, List.getElem?_append_right (by omega), List.append_assoc, List.getElem?_append_left (by simp; omega), List.getElem?_replicate]
      split <;> rfl
    have h2 : q.getD (p + g - 1) false = true := by
      rw [hqs, List.getD_eq_getElem?_getD, List.getElem?_append_right (by omega), List.append_assoc, List.getElem?_append_right (by simp; omega), List.length_replicate, ← hpe, show p + g - 1 - p - (g - 1) = 0 by omega]
      rfl
    have e1 := ints_idx hs i pre.length hi (by simp)
    have e2 := ints_ld hs pre.length (g : Int) (by simp)
    have e4 := wrI (i + 1) (by omega) (by omega)
    have w1 : IntKind.i64.wrap ((p : Int) + (g : Int)) = ((p + g : Nat) : Int) := by rw [wrI _ (by omega) (by omega)]; omega
    have q2 : ¬ ((2 : Int) = 0) := by omega
    have u1 : Int.tdiv ((p + g : Nat) : Int) 2 = (((p + g) / 2 : Nat) : Int) := by rw [Int.tdiv_eq_ediv_of_nonneg (by omega)]; omega
    have u2 : Int.tmod ((p + g : Nat) : Int) 2 = (((p + g) % 2 : Nat) : Int) := by rw [Int.tmod_eq_emod_of_nonneg (by omega)]; omega
    have u3 := wrI (((p + g) / 2 : Nat) : Int) (by omega) (by omega)
    have hv2 : ∀ b, inB vl b → ¬ inB vd b ∧ ¬ inB vc b := fun b hb => ⟨fun ⟨o, l, c, e⟩ => by have := (hd.2 b o l c e).1; have := hvl b hb; omega, fun ⟨o, l, c, e⟩ => by have := (hc.2 b o l c e).1; have := hvl b hb; omega⟩
    by_cases he : (p + g) % 2 = 0
    · obtain ⟨s1, s2⟩ := step_even q n p g hg1 h1 h2 hpn he
      have c1 : ((((p + g) % 2 : Nat) : Int) == 0) = true := by rw [he]; rfl
      have u4 : IntKind.i64.wrap ((((p + g) / 2 : Nat) : Int) - 1) = (((p + g) / 2 - 1 : Nat) : Int) := by rw [wrI _ (by omega) (by omega)]; omega
      have e5 := boos_idx (l := dataL p q n) hd.1 (((p + g) / 2 - 1 : Nat) : Int) ((p + g) / 2 - 1) rfl (by rw [dataL_len]; omega)
      simp only [xmfm_bits_l1, ofArgs, run_seq, run_block, run_ops, run_skip, run_exit, run_ret, thenQ_normal, thenQ_exit, thenQ_ret, blockQ_normal, blockQ_exit, blockQ_ret, retQ_ret, retQ_normal, ops_nil, ops_none, got_some, ops_wT, ops_wTn, ops_wF, ops_wFn, ops_wU, dops_wT, dops_wTn, dops_wF, dops_wFn, dops_wU, run_condT, run_condF, alt2_int, altB_bool, altI_int, altBB_bool, v_min, v_max, v_not, v_neg, optEv_none, optEv_some, isSome'_none, isSome'_some, pExt0, pExt1, pExt2, Bool.false_and, Bool.true_and, Bool.not_true, Bool.not_false, cond_true, cond_false, dops_nil, dops_none, xval_call, v_mov, v_bin, v_len, v_ext, v_idxA, v_ld, v_st, v_app, v_appN, v_cvs, v_bs1, pBs1, v_slc, v_conv, v_fld, v_fldA, v_new, v_box, v_mks, v_copy, v_isnil, v_nilck, v_pick, ev, evs_nil, evs_cons, fr_get_cons, fr_put_nil, fr_put_cons, fr_put_some, fr_put_none, fr_keep_nil, fr_keep_cons, fr_has_nil, fr_has_cons, Option.bind_some, Option.map_some, xbin, ibin, xresult_eq, xress_nil, xress_tmp, resV, ex_some, if_true, if_false, ite_true, ite_false, reduceIte, reduceCtorEq, Nat.reduceEqDiff, Nat.reduceLT, Nat.reduceLeDiff, Int.reduceLT, Int.reduceLE, Nat.zero_add, Nat.reduceAdd, Bool.false_eq_true, decide_eq_true_eq, decide_eq_false_iff_not, true_implies, false_implies, and_true, true_and, hlt, decide_true, e1, e2, w1, q2, u1, u2, u3, c1, u4, e5]
      refine OwnO.set' hd (by rw [dataL_len]; omega) ?_
      intro H' o' st
      rw [← s1] at o'
      have hc' := Own.stp st hc hdis
      have hc'' : OwnO n0 H' vc (clockL (p + g) q n) := by rw [s2]; exact hc'
      have kk := st.keep hd hnn
      simp only [ofArgs, run_seq, run_block, run_ops, run_skip, run_exit, run_ret, thenQ_normal, thenQ_exit, thenQ_ret, blockQ_normal, blockQ_exit, blockQ_ret, retQ_ret, retQ_normal, ops_nil, ops_none, got_some, ops_wT, ops_wTn, ops_wF, ops_wFn, ops_wU, dops_wT, dops_wTn, dops_wF, dops_wFn, dops_wU, run_condT, run_condF, alt2_int, altB_bool, altI_int, altBB_bool, v_min, v_max, v_not, v_neg, optEv_none, optEv_some, isSome'_none, isSome'_some, pExt0, pExt1, pExt2, Bool.false_and, Bool.true_and, Bool.not_true, Bool.not_false, cond_true, cond_false, dops_nil, dops_none, xval_call, v_mov, v_bin, v_len, v_ext, v_idxA, v_ld, v_st, v_app, v_appN, v_cvs, v_bs1, pBs1, v_slc, v_conv, v_fld, v_fldA, v_new, v_box, v_mks, v_copy, v_isnil, v_nilck, v_pick, ev, evs_nil, evs_cons, fr_get_cons, fr_put_nil, fr_put_cons, fr_put_some, fr_put_none, fr_keep_nil, fr_keep_cons, fr_has_nil, fr_has_cons, Option.bind_some, Option.map_some, xbin, ibin, xresult_eq, xress_nil, xress_tmp, resV, ex_some, if_true, if_false, ite_true, ite_false, reduceIte, reduceCtorEq, Nat.reduceEqDiff, Nat.reduceLT, Nat.reduceLeDiff, Int.reduceLT, Int.reduceLE, Nat.zero_add, Nat.reduceAdd, Bool.false_eq_true, decide_eq_true_eq, decide_eq_false_iff_not, true_implies, false_implies, and_true, true_and, e4]
      refine ih' H' (p + g) (i + 1) N Q (Ints.app1 (Sl.same hs st.n fun b hb => st.get b (Sl.lt hs hb) (hv2 b hb).1)) (by simpa using hp) (by simpa using hqe) hplen o' hc'' (by have := kk.1; omega) (by simp; omega) (by simp; omega) (by simpa using hN) ?_
      intro H2 a1 a2 k2
      exact hq H2 a1 a2 (kk.trans k2)
    · obtain ⟨s1, s2⟩ := step_odd q n p g hg1 h1 h2 hpn he
      have c1 : ((((p + g) % 2 : Nat) : Int) == 0) = false := by simp; omega
      have e5 := boos_idx (l := clockL p q n) hc.1 (((p + g) / 2 : Nat) : Int) ((p + g) / 2) rfl (by rw [clockL_len]; omega)
      simp only [xmfm_bits_l1, ofArgs, run_seq, run_block, run_ops, run_skip, run_exit, run_ret, thenQ_normal, thenQ_exit, thenQ_ret, blockQ_normal, blockQ_exit, blockQ_ret, retQ_ret, retQ_normal, ops_nil, ops_none, got_some, ops_wT, ops_wTn, ops_wF, ops_wFn, ops_wU, dops_wT, dops_wTn, dops_wF, dops_wFn, dops_wU, run_condT, run_condF, alt2_int, altB_bool, altI_int, altBB_bool, v_min, v_max, v_not, v_neg, optEv_none, optEv_some, isSome'_none, isSome'_some, pExt0, pExt1, pExt2, Bool.false_and, Bool.true_and, Bool.not_true, Bool.not_false, cond_true, cond_false, dops_nil, dops_none, xval_call, v_mov, v_bin, v_len, v_ext, v_idxA, v_ld, v_st, v_app, v_appN, v_cvs, v_bs1, pBs1, v_slc, v_conv, v_fld, v_fldA, v_new, v_box, v_mks, v_copy, v_isnil, v_nilck, v_pick, ev, evs_nil, evs_cons, fr_get_cons, fr_put_nil, fr_put_cons, fr_put_some, fr_put_none, fr_keep_nil, fr_keep_cons, fr_has_nil, fr_has_cons, Option.bind_some, Option.map_some, xbin, ibin, xresult_eq, xress_nil, xress_tmp, resV, ex_some, if_true, if_false, ite_true, ite_false, reduceIte, reduceCtorEq, Nat.reduceEqDiff, Nat.reduceLT, Nat.reduceLeDiff, Int.reduceLT, Int.reduceLE, Nat.zero_add, Nat.reduceAdd, Bool.false_eq_true, decide_eq_true_eq, decide_eq_false_iff_not, true_implies, false_implies, and_true, true_and, hlt, decide_true, e1, e2, w1, q2, u1, u2, u3, c1, e5]
      refine OwnO.set' hc (by rw [clockL_len]; omega) ?_
      intro H' o' st
      rw [← s1] at o'
      have hd' := Own.stp st hd hdis2
      have hd'' : OwnO n0 H' vd (dataL (p + g) q n) := by rw [s2]; exact hd'
      have kk := st.keep hc hnn
      simp only [ofArgs, run_seq, run_block, run_ops, run_skip, run_exit, run_ret, thenQ_normal, thenQ_exit, thenQ_ret, blockQ_normal, blockQ_exit, blockQ_ret, retQ_ret, retQ_normal, ops_nil, ops_none, got_some, ops_wT, ops_wTn, ops_wF, ops_wFn, ops_wU, dops_wT, dops_wTn, dops_wF, dops_wFn, dops_wU, run_condT, run_condF, alt2_int, altB_bool, altI_int, altBB_bool, v_min, v_max, v_not, v_neg, optEv_none, optEv_some, isSome'_none, isSome'_some, pExt0, pExt1, pExt2, Bool.false_and, Bool.true_and, Bool.not_true, Bool.not_false, cond_true, cond_false, dops_nil, dops_none, xval_call, v_mov, v_bin, v_len, v_ext, v_idxA, v_ld, v_st, v_app, v_appN, v_cvs, v_bs1, pBs1, v_slc, v_conv, v_fld, v_fldA, v_new, v_box, v_mks, v_copy, v_isnil, v_nilck, v_pick, ev, evs_nil, evs_cons, fr_get_cons, fr_put_nil, fr_put_cons, fr_put_some, fr_put_none, fr_keep_nil, fr_keep_cons, fr_has_nil, fr_has_cons, Option.bind_some, Option.map_some, xbin, ibin, xresult_eq, xress_nil, xress_tmp, resV, ex_some, if_true, if_false, ite_true, ite_false, reduceIte, reduceCtorEq, Nat.reduceEqDiff, Nat.reduceLT, Nat.reduceLeDiff, Int.reduceLT, Int.reduceLE, Nat.zero_add, Nat.reduceAdd, Bool.false_eq_true, decide_eq_true_eq, decide_eq_false_iff_not, true_implies, false_implies, and_true, true_and, e4]
      refine ih' H' (p + g) (i + 1) N Q (Ints.app1 (Sl.same hs st.n fun b hb => st.get b (Sl.lt hs hb) (hv2 b hb).2)) (by simpa using hp) (by simpa using hqe) hplen hd'' o' (by have := kk.1; omega) (by simp; omega) (by simp; omega) (by simpa using hN) ?_
      intro H2 a1 a2 k2
      exact hq H2 a1 a2 (kk.trans k2)

theorem bits_ok (L : List Int) (n : Nat) (vl : Value) (H : AH) (Q : Value → AH → Prop) (hs : Ints H vl L) (hp : ∀ g ∈ L, 1 ≤ g) (hl : L.length ≤ 40000) (hlen : (expand L).length = 2 * n) (hn1 : 1 ≤ n) (hn : n ≤ 100000) (hn8 : (n - 1) % 8 = 0)
    (hq : ∀ vd vc H', OwnO H.n H' vd (dataL (2 * n) (expand L) n) → OwnO H.n H' vc (clockL (2 * n) (expand L) n) → HExt H H' → Q (.tuple [vd, vc, .int .i64 0].toArray) H') : Got (xc Try.prog tab 78 [vl] H) Q := by
  refine got_call (res := [.tmp 2, .tmp 3, .tmp 4]) rfl ?_
  have e0 := ints_len hs
  have hsum : L.sum = ((2 * n : Nat) : Int) := by rw [← expand_len L hp, hlen]
  simp only [ofArgs, run_seq, run_block, run_ops, run_skip, run_exit, run_ret, thenQ_normal, thenQ_exit, thenQ_ret, blockQ_normal, blockQ_exit, blockQ_ret, retQ_ret, retQ_normal, ops_nil, ops_none, got_some, ops_wT, ops_wTn, ops_wF, ops_wFn, ops_wU, dops_wT, dops_wTn, dops_wF, dops_wFn, dops_wU, run_condT, run_condF, alt2_int, altB_bool, altI_int, altBB_bool, v_min, v_max, v_not, v_neg, optEv_none, optEv_some, isSome'_none, isSome'_some, pExt0, pExt1, pExt2, Bool.false_and, Bool.true_and, Bool.not_true, Bool.not_false, cond_true, cond_false, dops_nil, dops_none, xval_call, v_mov, v_bin, v_len, v_ext, v_idxA, v_ld, v_st, v_app, v_appN, v_cvs, v_bs1, pBs1, v_slc, v_conv, v_fld, v_fldA, v_new, v_box, v_mks, v_copy, v_isnil, v_nilck, v_pick, ev, evs_nil, evs_cons, fr_get_cons, fr_put_nil, fr_put_cons, fr_put_some, fr_put_none, fr_keep_nil, fr_keep_cons, fr_has_nil, fr_has_cons, Option.bind_some, Option.map_some, xbin, ibin, xresult_eq, xress_nil, xress_tmp, resV, ex_some, if_true, if_false, ite_true, ite_false, reduceIte, reduceCtorEq, Nat.reduceEqDiff, Nat.reduceLT, Nat.reduceLeDiff, Int.reduceLT, Int.reduceLE, Nat.zero_add, Nat.reduceAdd, Bool.false_eq_true, decide_eq_true_eq, decide_eq_false_iff_not, true_implies, false_implies, and_true, true_and, e0]
  refine bits_l0 vl H L [] 0 0 _ _ hs hp (by omega) (by omega) (by simpa using hl) (by simp) (by simp) ?_
  rw [Int.zero_add, hsum]
  have q2 : ¬ ((2 : Int) = 0) := by omega
  have u2 : Int.tmod ((2 * n : Nat) : Int) 2 = 0 := by rw [Int.tmod_eq_emod_of_nonneg (by omega)]; omega
  have u1 : Int.tdiv ((2 * n : Nat) : Int) 2 = ((n : Nat) : Int) := by rw [Int.tdiv_eq_ediv_of_nonneg (by omega)]; omega
  have u3 := wrI ((n : Nat) : Int) (by omega) (by omega)
  have c1 : ((0 : Int) == 1) = false := rfl
  have c2 : ¬ ((2 * n : Nat) : Int) < 2 := by omega
  have m1 := fun H => pMks_ok (.bool false) n (by omega) .i64 H (n : Int) rfl
  simp only [ofArgs, run_seq, run_block, run_ops, run_skip, run_exit, run_ret, thenQ_normal, thenQ_exit, thenQ_ret, blockQ_normal, blockQ_exit, blockQ_ret, retQ_ret, retQ_normal, ops_nil, ops_none, got_some, ops_wT, ops_wTn, ops_wF, ops_wFn, ops_wU, dops_wT, dops_wTn, dops_wF, dops_wFn, dops_wU, run_condT, run_condF, alt2_int, altB_bool, altI_int, altBB_bool, v_min, v_max, v_not, v_neg, optEv_none, optEv_some, isSome'_none, isSome'_some, pExt0, pExt1, pExt2, Bool.false_and, Bool.true_and, Bool.not_true, Bool.not_false, cond_true, cond_false, dops_nil, dops_none, xval_call, v_mov, v_bin, v_len, v_ext, v_idxA, v_ld, v_st, v_app, v_appN, v_cvs, v_bs1, pBs1, v_slc, v_conv, v_fld, v_fldA, v_new, v_box, v_mks, v_copy, v_isnil, v_nilck, v_pick, ev, evs_nil, evs_cons, fr_get_cons, fr_put_nil, fr_put_cons, fr_put_some, fr_put_none, fr_keep_nil, fr_keep_cons, fr_has_nil, fr_has_cons, Option.bind_some, Option.map_some, xbin, ibin, xresult_eq, xress_nil, xress_tmp, resV, ex_some, if_true, if_false, ite_true, ite_false, reduceIte, reduceCtorEq, Nat.reduceEqDiff, Nat.reduceLT, Nat.reduceLeDiff, Int.reduceLT, Int.reduceLE, Nat.zero_add, Nat.reduceAdd, Bool.false_eq_true, decide_eq_true_eq, decide_eq_false_iff_not, true_implies, false_implies, and_true, true_and, q2, u1, u2, u3, c1, c2, decide_false]
  refine run_dopsS _ _ _ _ _ ?_
  simp only [ofArgs, run_seq, run_block, run_ops, run_skip, run_exit, run_ret, thenQ_normal, thenQ_exit, thenQ_ret, blockQ_normal, blockQ_exit, blockQ_ret, retQ_ret, retQ_normal, ops_nil, ops_none, got_some, ops_wT, ops_wTn, ops_wF, ops_wFn, ops_wU, dops_wT, dops_wTn, dops_wF, dops_wFn, dops_wU, run_condT, run_condF, alt2_int, altB_bool, altI_int, altBB_bool, v_min, v_max, v_not, v_neg, optEv_none, optEv_some, isSome'_none, isSome'_some, pExt0, pExt1, pExt2, Bool.false_and, Bool.true_and, Bool.not_true, Bool.not_false, cond_true, cond_false, dops_nil, dops_none, xval_call, v_mov, v_bin, v_len, v_ext, v_idxA, v_ld, v_st, v_app, v_appN, v_cvs, v_bs1, pBs1, v_slc, v_conv, v_fld, v_fldA, v_new, v_box, v_mks, v_copy, v_isnil, v_nilck, v_pick, ev, evs_nil, evs_cons, fr_get_cons, fr_put_nil, fr_put_cons, fr_put_some, fr_put_none, fr_keep_nil, fr_keep_cons, fr_has_nil, fr_has_cons, Option.bind_some, Option.map_some, xbin, ibin, xresult_eq, xress_nil, xress_tmp, resV, ex_some, if_true, if_false, ite_true, ite_false, reduceIte, reduceCtorEq, Nat.reduceEqDiff, Nat.reduceLT, Nat.reduceLeDiff, Int.reduceLT, Int.reduceLE, Nat.zero_add, Nat.reduceAdd, Bool.false_eq_true, decide_eq_true_eq, decide_eq_false_iff_not, true_implies, false_implies, and_true, true_and, dr_nil, dr_cons, hs0, hs1, hs2, hs3, addC_nil, addC_cons, stabAll_nil, stabAll_cons, stab1_nil, stab1_cons, hat_cons, xval_wT, xval_wTn, xval_wF, xval_wFn, veq_int, veq_bool, veq_ptr, veq_sl, q2, u1, u3, m1, AH.push_n]
  have x1 : HExt H ((H.push ⟨rep n [.bool false], 1, false, false⟩).push ⟨rep n [.bool false], 1, false, false⟩) := (hext_push H _).trans (hext_push _ _)
  have e1 := ints_len (Sl.ext x1 hs : Ints _ vl L)
  have z1 : dataL 0 (expand L) n = List.replicate n false := by
    apply List.ext_getElem?
    intro i
    rcases Nat.lt_or_ge i n with hi | hi
    · rw [dataL_get _ _ _ _ hi]; simp [hi]
    · rw [dataL_none _ _ _ _ hi]; simp [hi]
  have z2 : clockL 0 (expand L) n = List.replicate n false := by
    apply List.ext_getElem?
    intro i
    rcases Nat.lt_or_ge i n with hi | hi
    · rw [clockL_get _ _ _ _ hi]; simp [hi]
    · rw [clockL_none _ _ _ _ hi]; simp [hi]
  have od : OwnO H.n ((H.push ⟨rep n [.bool false], 1, false, false⟩).push ⟨rep n [.bool false], 1, false, false⟩) (.slice (some ⟨H.n, 0, none⟩) n n) (dataL 0 (expand L) n) := by
    rw [z1]
    have hp := Own.pushed H (rep n [.bool false]) 1 n false (by rw [rep_length]; simp)
    have := Own.ext (hext_push (H.push ⟨rep n [.bool false], 1, false, false⟩) ⟨rep n [.bool false], 1, false, false⟩) hp
    unfold OwnO
    rw [rep_one] at this
    simpa [rep_one] using this
  have oc : OwnO H.n ((H.push ⟨rep n [.bool false], 1, false, false⟩).push ⟨rep n [.bool false], 1, false, false⟩) (.slice (some ⟨H.n + 1, 0, none⟩) n n) (clockL 0 (expand L) n) := by
    rw [z2]
    have hp := (Own.pushed (H.push ⟨rep n [.bool false], 1, false, false⟩) (rep n [.bool false]) 1 n false (by rw [rep_length]; simp)).le (n0 := H.n) (by simp)
    unfold OwnO
    rw [rep_one] at hp
    simpa [rep_one] using hp
  have hn2 : ((H.push ⟨rep n [.bool false], 1, false, false⟩).push ⟨rep n [.bool false], 1, false, false⟩).n = H.n + 2 := by simp
  simp only [ofArgs, run_seq, run_block, run_ops, run_skip, run_exit, run_ret, thenQ_normal, thenQ_exit, thenQ_ret, blockQ_normal, blockQ_exit, blockQ_ret, retQ_ret, retQ_normal, ops_nil, ops_none, got_some, ops_wT, ops_wTn, ops_wF, ops_wFn, ops_wU, dops_wT, dops_wTn, dops_wF, dops_wFn, dops_wU, run_condT, run_condF, alt2_int, altB_bool, altI_int, altBB_bool, v_min, v_max, v_not, v_neg, optEv_none, optEv_some, isSome'_none, isSome'_some, pExt0, pExt1, pExt2, Bool.false_and, Bool.true_and, Bool.not_true, Bool.not_false, cond_true, cond_false, dops_nil, dops_none, xval_call, v_mov, v_bin, v_len, v_ext, v_idxA, v_ld, v_st, v_app, v_appN, v_cvs, v_bs1, pBs1, v_slc, v_conv, v_fld, v_fldA, v_new, v_box, v_mks, v_copy, v_isnil, v_nilck, v_pick, ev, evs_nil, evs_cons, fr_get_cons, fr_put_nil, fr_put_cons, fr_put_some, fr_put_none, fr_keep_nil, fr_keep_cons, fr_has_nil, fr_has_cons, Option.bind_some, Option.map_some, xbin, ibin, xresult_eq, xress_nil, xress_tmp, resV, ex_some, if_true, if_false, ite_true, ite_false, reduceIte, reduceCtorEq, Nat.reduceEqDiff, Nat.reduceLT, Nat.reduceLeDiff, Int.reduceLT, Int.reduceLE, Nat.zero_add, Nat.reduceAdd, Bool.false_eq_true, decide_eq_true_eq, decide_eq_false_iff_not, true_implies, false_implies, and_true, true_and, e1]
  generalize ((H.push ⟨rep n [.bool false], 1, false, false⟩).push ⟨rep n [.bool false], 1, false, false⟩) = H2 at x1 od oc hn2
  refine bits_l1 H.n vl _ _ ((2 * n : Nat) : Int) (expand L) n hn hlen (fun b hb => Sl.lt hs hb) (fun b ⟨o, l, c, e⟩ ⟨o2, l2, c2, e2⟩ => by simp at e e2; omega) L [] H2 0 0 _ _ (Sl.ext x1 hs) hp rfl rfl od oc (by omega) (by simpa using hl) (by simp) (by simp) ?_
  intro H3 d3 c3 k3
  have w1 : IntKind.i64.wrap (((n : Nat) : Int) - 1) = ((n - 1 : Nat) : Int) := by rw [wrI _ (by omega) (by omega)]; omega
  have q8 : ¬ ((8 : Int) = 0) := by omega
  have u8 : Int.tmod ((n - 1 : Nat) : Int) 8 = 0 := by rw [Int.tmod_eq_emod_of_nonneg (by omega)]; omega
  simp only [ofArgs, run_seq, run_block, run_ops, run_skip, run_exit, run_ret, thenQ_normal, thenQ_exit, thenQ_ret, blockQ_normal, blockQ_exit, blockQ_ret, retQ_ret, retQ_normal, ops_nil, ops_none, got_some, ops_wT, ops_wTn, ops_wF, ops_wFn, ops_wU, dops_wT, dops_wTn, dops_wF, dops_wFn, dops_wU, run_condT, run_condF, alt2_int, altB_bool, altI_int, altBB_bool, v_min, v_max, v_not, v_neg, optEv_none, optEv_some, isSome'_none, isSome'_some, pExt0, pExt1, pExt2, Bool.false_and, Bool.true_and, Bool.not_true, Bool.not_false, cond_true, cond_false, dops_nil, dops_none, xval_call, v_mov, v_bin, v_len, v_ext, v_idxA, v_ld, v_st, v_app, v_appN, v_cvs, v_bs1, pBs1, v_slc, v_conv, v_fld, v_fldA, v_new, v_box, v_mks, v_copy, v_isnil, v_nilck, v_pick, ev, evs_nil, evs_cons, fr_get_cons, fr_put_nil, fr_put_cons, fr_put_some, fr_put_none, fr_keep_nil, fr_keep_cons, fr_has_nil, fr_has_cons, Option.bind_some, Option.map_some, xbin, ibin, xresult_eq, xress_nil, xress_tmp, resV, ex_some, if_true, if_false, ite_true, ite_false, reduceIte, reduceCtorEq, Nat.reduceEqDiff, Nat.reduceLT, Nat.reduceLeDiff, Int.reduceLT, Int.reduceLE, Nat.zero_add, Nat.reduceAdd, Bool.false_eq_true, decide_eq_true_eq, decide_eq_false_iff_not, true_implies, false_implies, and_true, true_and, q2, u1, u3, w1, q8, u8, bne_self_eq_false]
  exact hq _ _ H3 d3 c3 (Keep.trans (n0 := H.n) x1 k3)
end Go.Proofs.Ytejedmocjdcdgaa.D

set_option linter.unusedSimpArgs false
set_option linter.unusedVariables false
namespace Go.Proofs.Ytejedmocjdcdgaa.D
open Go Go.Det

/-- the bit ahead of bit k of a byte -/
def lastAt (c : Nat) (last0 : Bool) (k : Nat) : Bool := if k = 0 then last0 else c.testBit (8 - k)

set_option maxHeartbeats 8000000 in
/-- the eight bits of a byte are read -/
theorem rp_l0 (vd vc vo : Value) (dl cl : List Bool) (i0 c : Nat) (hc : c < 256) (mark last0 : Bool) (H : AH) (hd : Boos H vd dl) (hcl : Boos H vc cl) (hi0 : i0 + 8 ≤ dl.length) (hi1 : i0 + 8 ≤ cl.length) (hi2 : i0 ≤ 100000)
    (h1 : ∀ k, k < 8 → dl[i0 + k]? = some (c.testBit (7 - k))) (h2 : ∀ k, k < 8 → cl[i0 + k]? = some (!(c.testBit (7 - k)) && !(lastAt c last0 k) && !(mark && decide (k = 5)))) (r : Nat) :
    ∀ (k : Nat) (i : Int) (Q : XExit → Fr → AH → Prop), k + r = 8 → i = (k : Int) →
    Q (.exit 2) [(8, vd), (9, vc), (10, vo), (11, .bool (c.testBit 0)), (12, .int .i64 (i0 : Nat)), (13, .int .i64 (c : Nat)), (14, .bool mark), (65, .int .i64 8), (66, .bool false)] H →
    Run Try.prog tab (.loop xmfm_ReadParts_l0) [(8, vd), (9, vc), (10, vo), (11, .bool (lastAt c last0 k)), (12, .int .i64 (i0 : Nat)), (13, .int .i64 ((c >>> (8 - k) : Nat) : Int)), (14, .bool mark), (65, .int .i64 i)] H Q := by
  induction r with
  | zero =>
    intro k i Q hk hi hq
    rw [run_loop]
    generalize hL : XCode.loop xmfm_ReadParts_l0 = LL
    obtain rfl : k = 8 := by omega
    obtain rfl : i = 8 := by omega
    have e1 : lastAt c last0 8 = c.testBit 0 := rfl
    simp only [xmfm_ReadParts_l0, ofArgs, run_seq, run_block, run_ops, run_skip, run_exit, run_ret, thenQ_normal, thenQ_exit, thenQ_ret, blockQ_normal, blockQ_exit, blockQ_ret, retQ_ret, retQ_normal, ops_nil, ops_none, got_some, ops_wT, ops_wTn, ops_wF, ops_wFn, ops_wU, dops_wT, dops_wTn, dops_wF, dops_wFn, dops_wU, run_condT, run_condF, alt2_int, altB_bool, altI_int, altBB_bool, v_min, v_max, v_not, v_neg, optEv_none, optEv_some, isSome'_none, isSome'_some, pExt0, pExt1, pExt2, Bool.false_and, Bool.true_and, Bool.not_true, Bool.not_false, cond_true, cond_false, dops_nil, dops_none, xval_call, v_mov, v_bin, v_len, v_ext, v_idxA, v_ld, v_st, v_app, v_appN, v_cvs, v_bs1, pBs1, v_slc, v_conv, v_fld, v_fldA, v_new, v_box, v_mks, v_copy, v_isnil, v_nilck, v_pick, ev, evs_nil, evs_cons, fr_get_cons, fr_put_nil, fr_put_cons, fr_put_some, fr_put_none, fr_keep_nil, fr_keep_cons, fr_has_nil, fr_has_cons, Option.bind_some, Option.map_some, xbin, ibin, xresult_eq, xress_nil, xress_tmp, resV, ex_some, if_true, if_false, ite_true, ite_false, reduceIte, reduceCtorEq, Nat.reduceEqDiff, Nat.reduceLT, Nat.reduceLeDiff, Int.reduceLT, Int.reduceLE, Nat.zero_add, Nat.reduceAdd, Bool.false_eq_true, decide_eq_true_eq, decide_eq_false_iff_not, true_implies, false_implies, and_true, true_and, Int.lt_irrefl, decide_false, e1, Nat.sub_self, Nat.shiftRight_zero]
    exact hq
  | succ r ih =>
    intro k i Q hk hi hq
    have ih' := ih (k + 1) (i + 1) Q (by omega) (by omega) hq
    rw [run_loop]
    generalize hL : XCode.loop xmfm_ReadParts_l0 = LL
    rw [hL] at ih'
    have hlt : i < 8 := by omega
    have hk8 : k < 8 := by omega
    have w1 : IntKind.i64.wrap ((i0 : Int) + i) = ((i0 + k : Nat) : Int) := by rw [wrI _ (by omega) (by omega)]; omega
    have e1 := boos_idx hd ((i0 + k : Nat) : Int) (i0 + k) rfl (by omega)
    have e2 := boos_ld hd (i0 + k) _ (h1 k hk8)
    have e3 := boos_idx hcl ((i0 + k : Nat) : Int) (i0 + k) rfl (by omega)
    have e4 := boos_ld hcl (i0 + k) _ (h2 k hk8)
    have w4 := wrI (i + 1) (by omega) (by omega)
    have hsl : c >>> (8 - k) < 256 := by
      rw [Nat.shiftRight_eq_div_pow]; exact Nat.lt_of_le_of_lt (Nat.div_le_self _ _) hc
    have ub := fun (fr : Fr) (H : AH) => v_neb (P := Try.prog) (T := tab) (fr := fr) (H := H) Try.underlying4
    have e5 : (i == 5) = decide (k = 5) := by
      by_cases h : k = 5
      · subst h; obtain rfl : i = 5 := by omega
        rfl
      · have : ¬ i = 5 := by omega
        simp [h, this]
    have hstep := shr_step c (7 - k)
    rw [show 7 - k + 1 = 8 - k by omega] at hstep
    have hl1 : lastAt c last0 (k + 1) = c.testBit (7 - k) := by
      unfold lastAt; rw [if_neg (by omega), show 8 - (k + 1) = 7 - k by omega]
    rw [hl1, show 8 - (k + 1) = 7 - k by omega, ← hstep] at ih'
    generalize lastAt c last0 k = la at e4 
    generalize c.testBit (7 - k) = bit at e2 e4 ih'
    generalize c >>> (8 - k) = cc at hsl ih'
    have w2 := wrI ((cc : Int) * 2) (by omega) (by omega)
    have w3 := wrI ((cc : Int) * 2 + 1) (by omega) (by omega)
    generalize hx : decide (k = 5) = x at e4 e5
    cases bit <;> cases la <;> cases mark <;> cases x <;>
      (simp only [Bool.not_true, Bool.not_false, Bool.and_true, Bool.and_false, Bool.true_and, Bool.false_and] at e4
       simp only [xmfm_ReadParts_l0, ofArgs, run_seq, run_block, run_ops, run_skip, run_exit, run_ret, thenQ_normal, thenQ_exit, thenQ_ret, blockQ_normal, blockQ_exit, blockQ_ret, retQ_ret, retQ_normal, ops_nil, ops_none, got_some, ops_wT, ops_wTn, ops_wF, ops_wFn, ops_wU, dops_wT, dops_wTn, dops_wF, dops_wFn, dops_wU, run_condT, run_condF, alt2_int, altB_bool, altI_int, altBB_bool, v_min, v_max, v_not, v_neg, optEv_none, optEv_some, isSome'_none, isSome'_some, pExt0, pExt1, pExt2, Bool.false_and, Bool.true_and, Bool.not_true, Bool.not_false, cond_true, cond_false, dops_nil, dops_none, xval_call, v_mov, v_bin, v_len, v_ext, v_idxA, v_ld, v_st, v_app, v_appN, v_cvs, v_bs1, pBs1, v_slc, v_conv, v_fld, v_fldA, v_new, v_box, v_mks, v_copy, v_isnil, v_nilck, v_pick, ev, evs_nil, evs_cons, fr_get_cons, fr_put_nil, fr_put_cons, fr_put_some, fr_put_none, fr_keep_nil, fr_keep_cons, fr_has_nil, fr_has_cons, Option.bind_some, Option.map_some, xbin, ibin, xresult_eq, xress_nil, xress_tmp, resV, ex_some, if_true, if_false, ite_true, ite_false, reduceIte, reduceCtorEq, Nat.reduceEqDiff, Nat.reduceLT, Nat.reduceLeDiff, Int.reduceLT, Int.reduceLE, Nat.zero_add, Nat.reduceAdd, Bool.false_eq_true, decide_eq_true_eq, decide_eq_false_iff_not, true_implies, false_implies, and_true, true_and, hlt, decide_true, w1, e1, e2, e3, e4, e5, ub, w2, w3, w4, beq_self_eq_true]
       have hcc : ((2 * cc : Nat) : Int) = (cc : Int) * 2 := by omega
       have hcc1 : ((2 * cc + 1 : Nat) : Int) = (cc : Int) * 2 + 1 := by omega
       simp only [Bool.toNat_false, Bool.toNat_true, Nat.add_zero, hcc, hcc1] at ih'
       exact ih')
end Go.Proofs.Ytejedmocjdcdgaa.D

set_option linter.unusedSimpArgs false
set_option linter.unusedVariables false
namespace Go.Proofs.Ytejedmocjdcdgaa.D
open Go Go.Det

def pB2 (z0 : Value) (v : Value) (H : AH) : Option (Value × AH) :=
  match vcells v with
  | [u] => bif one u then some (.agg #[z0, u], H) else none
  | _ => none
theorem v_b2 {P : Program} {T : XTab} (fr : Fr) (H : AH) (dd : Option Nat) (x : Operand) (z0 z1 : Value) : xval P (xc P T) ⟨dd, .build [z0, z1] [(1, 1, x)], none⟩ fr H = (ev fr x).bind fun v => pB2 z0 v H := by
  rw [xval_op dd _ fr H rfl, e_build]
  rcases hx : ev fr x with _ | v
  · simp [xfill, hx]
  · simp only [Option.bind_some, pB2, xfill, hx]
    rcases vcells v with _ | ⟨u, _ | ⟨u2, r⟩⟩
    · rfl
    · cases h : one u
      · simp [h]
      · simp [h, splice, show Nat.ble 2 2 = true from rfl]
    · have hb : (u :: u2 :: r).length.beq 1 = false := by rw [Tr.beq_eq]; simp
      simp only [hb, Bool.false_and, cond_false]
      rfl
theorem pB2_sl (z0 : Value) (p : Option Addr) (l c : Nat) (H : AH) : pB2 z0 (.slice p l c) H = some (.agg #[z0, .slice p l c], H) := rfl
theorem pB2_of (z0 v : Value) (H : AH) (h1 : one v = true) (h2 : vcells v = [v]) : pB2 z0 v H = some (.agg #[z0, v], H) := by unfold pB2; rw [h2]; simp only [h1, cond_true]
def pS2 (v : Value) (H : AH) : Option (Value × AH) :=
  match vcells v with
  | [a, b] => bif one a && one b then some (.slice (some ⟨H.n, 0, none⟩) 1 1, H.push ⟨[a, b], 2, false, false⟩) else none
  | _ => none
theorem v_bs21 {P : Program} {T : XTab} (fr : Fr) (H : AH) (dd : Option Nat) (e : TypeId) (x : Operand) (z0 z1 : Value) : xval P (xc P T) ⟨dd, .bslice e 2 1 [z0, z1] [(0, x)], none⟩ fr H = (ev fr x).bind fun v => pS2 v H := by
  rw [xval_op dd _ fr H rfl, e_bslice]
  rcases hx : ev fr x with _ | v
  · simp [xfill, hx]
  · simp only [List.map_cons, List.map_nil, rep, List.append_nil, Option.bind_some, pS2, xfill, hx]
    rcases vcells v with _ | ⟨a, _ | ⟨b, _ | ⟨d, r⟩⟩⟩
    · rfl
    · have hb : [a].length.beq 2 = false := by rw [Tr.beq_eq]; simp
      simp only [hb, Bool.false_and, cond_false]
      rfl
    · cases h : one a <;> cases h2 : one b <;> simp [h, h2, splice, show Nat.ble 2 2 = true from rfl, show (2 : Nat).beq 2 = true from rfl]
    · have hb : (a :: b :: d :: r).length.beq 2 = false := by rw [Tr.beq_eq]; simp
      simp only [hb, Bool.false_and, cond_false]
      rfl
theorem pS2_of (m : Bool) (v : Value) (H : AH) (h1 : one v = true) : pS2 (.agg #[.bool m, v]) H = some (.slice (some ⟨H.n, 0, none⟩) 1 1, H.push ⟨[.bool m, v], 2, false, false⟩) := by
  have e : vcells (.agg #[.bool m, v]) = [.bool m, v] := rfl
  unfold pS2; rw [e]; simp only [h1, show one (.bool m) = true from rfl, Bool.true_and, cond_true]
theorem pS2_sl (m : Bool) (p : Option Addr) (l c : Nat) (H : AH) : pS2 (.agg #[.bool m, .slice p l c]) H = some (.slice (some ⟨H.n, 0, none⟩) 1 1, H.push ⟨[.bool m, .slice p l c], 2, false, false⟩) := rfl

/-! ### what a byte's places hold -/
theorem msym_get (c : Nat) (m : Bool) (r : Nat) : ∀ (last : Bool) (k : Nat), k < r → (msym c m r last)[2 * k + 1]? = some (c.testBit (r - 1 - k)) ∧ (msym c m r last)[2 * k]? = some (!(c.testBit (r - 1 - k)) && !(if k = 0 then last else c.testBit (r - k)) && !(m && decide (r - 1 - k = 2))) := by
  induction r with
  | zero => intro last k hk; omega
  | succ r ih =>
    intro last k hk
    cases k with
    | zero => simp [msym]
    | succ k =>
      have := ih (c.testBit r) k (by omega)
      have e1 : 2 * (k + 1) + 1 = 2 * k + 1 + 1 + 1 := by omega
      have e2 : 2 * (k + 1) = 2 * k + 1 + 1 := by omega
      have e3 : r + 1 - 1 - (k + 1) = r - 1 - k := by omega
      have e4 : r + 1 - (k + 1) = r - k := by omega
      rw [e1, e3, e4, e2]
      simp only [msym, List.getElem?_cons_succ]
      refine ⟨this.1, ?_⟩
      rw [this.2]
      by_cases hk0 : k = 0
      · subst hk0; simp
      · simp [hk0]

/-- at most one part -/
def OutS (n0 : Nat) (H : AH) (vo : Value) (m : Bool) (bs : List Int) : Prop :=
  (vo = .slice none 0 0 ∧ m = false ∧ bs = []) ∨ ∃ vb, Own n0 2 H vo 1 [.bool m, vb] ∧ OwnB n0 H vb bs ∧ ∀ b, inB vb b → ¬ inB vo b

theorem first_part (n0 : Nat) (H : AH) (m : Bool) (vb : Value) (bs : List Int) (hn : n0 ≤ H.n) (hb : OwnB n0 H vb bs) (Q : Value → AH → Prop) (hq : ∀ vo H', OutS n0 H' vo m bs → Keep n0 H H' → Q vo H') :
    Got (xapp (H.push ⟨[.bool m, vb], 2, false, false⟩) 2 32 (.slice none 0 0) (.slice (some ⟨H.n, 0, none⟩) 1 1)) Q := by
  obtain ⟨s1, s2⟩ := sl_slice hb.1
  have on : Own n0 2 (H.push ⟨[.bool m, vb], 2, false, false⟩) (.slice none 0 0) 0 [] := Own.nil _ _ _
  have ob2 : OwnB n0 (H.push ⟨[.bool m, vb], 2, false, false⟩) vb bs := Own.ext (hext_push _ _) hb
  refine xapp_own on (by simp; omega) (Sl.pushed H [.bool m, vb] 2 1 false false rfl) (by simp [s1, show one (.bool m) = true from rfl]) (by omega) (by omega) (by omega) ?_
  intro vo H' o st
  have hx : HExt (H.push ⟨[.bool m, vb], 2, false, false⟩) H' := ⟨st.n, fun b hb => st.get b hb fun ⟨o, l, c, e⟩ => by cases e⟩
  refine hq vo H' (.inr ⟨vb, by simpa using o, Own.ext hx ob2, fun b hbv hv => ?_⟩) (Keep.trans (HExt.keep (hext_push H _) hn) (HExt.keep hx (by simp; omega)))
  rcases st.new b hv with h | h
  · obtain ⟨o, l, c, e⟩ := h; cases e
  · have := Sl.lt ob2.1 hbv; omega

set_option maxHeartbeats 8000000 in
theorem rp_l1 (n0 : Nat) (vd vc : Value) (q : List Bool) (n : Nat) (hqn : q.length = 2 * n) (hn : n ≤ 100000) (hvd : ∀ b, inB vd b → b < n0) (hvc : ∀ b, inB vc b → b < n0) (m : Bool) (rest : List Int) : ∀ (pre : List Bool) (s : Nat) (last : Bool) (bs : List Int) (vo : Value) (H : AH) (Q : XExit → Fr → AH → Prop), Boos H vd (dataL (2 * n) q n) → Boos H vc (clockL (2 * n) q n) → B8 rest → q = pre ++ (syms rest last ++ [false, true]) → pre.length = 16 * s → n = 8 * (s + rest.length) + 1 → OutS n0 H vo m bs → n0 ≤ H.n → bs.length + rest.length ≤ 100000 →
    (∀ vo' H' last' j, OutS n0 H' vo' m (bs ++ rest) → Keep n0 H H' → Q (.exit 0) [(8, vd), (9, vc), (10, vo'), (11, .bool last'), (12, .int .i64 j), (40, .bool false)] H') →
    Run Try.prog tab (.loop xmfm_ReadParts_l1) [(8, vd), (9, vc), (10, vo), (11, .bool last), (12, .int .i64 ((8 * s : Nat) : Int))] H Q := by
  induction rest with
  | nil =>
    intro pre s last bs vo H Q hd hc h8 hqe hpl hns ho hnn hbl hq
    rw [run_loop]
    generalize hL : XCode.loop xmfm_ReadParts_l1 = LL
    have e1 := boos_len hd
    rw [dataL_len] at e1
    have w1 : IntKind.i64.wrap (((n : Nat) : Int) - 1) = ((n - 1 : Nat) : Int) := by rw [wrI _ (by omega) (by omega)]; omega
    have hf : ¬ ((8 * s : Nat) : Int) < ((n - 1 : Nat) : Int) := by simp at hns; omega
    simp only [xmfm_ReadParts_l1, ofArgs, run_seq, run_block, run_ops, run_skip, run_exit, run_ret, thenQ_normal, thenQ_exit, thenQ_ret, blockQ_normal, blockQ_exit, blockQ_ret, retQ_ret, retQ_normal, ops_nil, ops_none, got_some, ops_wT, ops_wTn, ops_wF, ops_wFn, ops_wU, dops_wT, dops_wTn, dops_wF, dops_wFn, dops_wU, run_condT, run_condF, alt2_int, altB_bool, altI_int, altBB_bool, v_min, v_max, v_not, v_neg, optEv_none, optEv_some, isSome'_none, isSome'_some, pExt0, pExt1, pExt2, Bool.false_and, Bool.true_and, Bool.not_true, Bool.not_false, cond_true, cond_false, dops_nil, dops_none, xval_call, v_mov, v_bin, v_len, v_ext, v_idxA, v_ld, v_st, v_app, v_appN, v_cvs, v_bs1, pBs1, v_slc, v_conv, v_fld, v_fldA, v_new, v_box, v_mks, v_copy, v_isnil, v_nilck, v_pick, ev, evs_nil, evs_cons, fr_get_cons, fr_put_nil, fr_put_cons, fr_put_some, fr_put_none, fr_keep_nil, fr_keep_cons, fr_has_nil, fr_has_cons, Option.bind_some, Option.map_some, xbin, ibin, xresult_eq, xress_nil, xress_tmp, resV, ex_some, if_true, if_false, ite_true, ite_false, reduceIte, reduceCtorEq, Nat.reduceEqDiff, Nat.reduceLT, Nat.reduceLeDiff, Int.reduceLT, Int.reduceLE, Nat.zero_add, Nat.reduceAdd, Bool.false_eq_true, decide_eq_true_eq, decide_eq_false_iff_not, true_implies, false_implies, and_true, true_and, e1, w1, hf, decide_false]
    exact hq vo H last _ (by simpa using ho) (.refl _ _)
  | cons a rest ih =>
    intro pre s last bs vo H Q hd hc h8 hqe hpl hns ho hnn hbl hq
    simp only [List.length_cons] at hns hbl
    have ha := h8 a (by simp)
    obtain ⟨c, rfl⟩ : ∃ c : Nat, a = (c : Int) := ⟨a.toNat, by omega⟩
    have hc256 : c < 256 := by omega
    have ih' := ih (pre ++ msym c false 8 last) (s + 1) (c.testBit 0)
    rw [run_loop]
    generalize hL : XCode.loop xmfm_ReadParts_l1 = LL
    rw [hL] at ih'
    have e1 := boos_len hd
    rw [dataL_len] at e1
    have w1 : IntKind.i64.wrap (((n : Nat) : Int) - 1) = ((n - 1 : Nat) : Int) := by rw [wrI _ (by omega) (by omega)]; omega
    have hlt : ((8 * s : Nat) : Int) < ((n - 1 : Nat) : Int) := by omega
    have hqs : q = pre ++ (msym c false 8 last ++ (syms rest (c.testBit 0) ++ [false, true])) := by rw [hqe]; simp [syms]
    have hdk : ∀ k, k < 8 → (dataL (2 * n) q n)[8 * s + k]? = some (c.testBit (7 - k)) := by
      intro k hk
      have h1 := (msym_get c false 8 last k hk).1
      rw [dataL_get _ _ _ _ (by omega), hqs, List.getD_eq_getElem?_getD, List.getElem?_append_right (by omega), show 2 * (8 * s + k) + 1 - pre.length = 2 * k + 1 by omega, List.getElem?_append_left (by rw [msym_len]; omega), h1]
      have : 2 * (8 * s + k) + 1 < 2 * n := by omega
      simp [this]
    have hck : ∀ k, k < 8 → (clockL (2 * n) q n)[8 * s + k]? = some (!(c.testBit (7 - k)) && !(lastAt c last k) && !(false && decide (k = 5))) := by
      intro k hk
      have h1 := (msym_get c false 8 last k hk).2
      rw [clockL_get _ _ _ _ (by omega), hqs, List.getD_eq_getElem?_getD, List.getElem?_append_right (by omega), show 2 * (8 * s + k) - pre.length = 2 * k by omega, List.getElem?_append_left (by rw [msym_len]; omega), h1]
      have : 2 * (8 * s + k) < 2 * n := by omega
      simp [this, lastAt]
    have d5 := hdk 5 (by omega)
    have d4 := hdk 4 (by omega)
    have c5 := hck 5 (by omega)
    have l5 : lastAt c last 5 = c.testBit 3 := rfl
    rw [show 7 - 5 = 2 from rfl] at d5 c5
    rw [show 7 - 4 = 3 from rfl] at d4
    rw [l5] at c5
    have wx5 : IntKind.i64.wrap (((8 * s : Nat) : Int) + 5) = ((8 * s + 5 : Nat) : Int) := by rw [wrI _ (by omega) (by omega)]; omega
    have wx4 : IntKind.i64.wrap (((8 * s : Nat) : Int) + 4) = ((8 * s + 4 : Nat) : Int) := by rw [wrI _ (by omega) (by omega)]; omega
    have wx8 : IntKind.i64.wrap (((8 * s : Nat) : Int) + 8) = ((8 * (s + 1) : Nat) : Int) := by rw [wrI _ (by omega) (by omega)]; omega
    have i5 := boos_idx hd ((8 * s + 5 : Nat) : Int) (8 * s + 5) rfl (by rw [dataL_len]; omega)
    have i4 := boos_idx hd ((8 * s + 4 : Nat) : Int) (8 * s + 4) rfl (by rw [dataL_len]; omega)
    have j5 := boos_idx hc ((8 * s + 5 : Nat) : Int) (8 * s + 5) rfl (by rw [clockL_len]; omega)
    have v5 := boos_ld hd (8 * s + 5) _ d5
    have v4 := boos_ld hd (8 * s + 4) _ d4
    have u5 := boos_ld hc (8 * s + 5) _ c5
    have inner := rp_l0 vd vc vo (dataL (2 * n) q n) (clockL (2 * n) q n) (8 * s) c hc256 false last H hd hc (by rw [dataL_len]; omega) (by rw [clockL_len]; omega) (by omega) hdk hck 8 0 0
    have h00 : c >>> (8 - 0) = 0 := by rw [Nat.shiftRight_eq_div_pow]; omega
    rw [h00] at inner
    have hl0 : lastAt c last 0 = last := rfl
    rw [hl0] at inner
    have wc := wrU8' (c : Int) (by omega) (by omega)
    -- what follows the bits
    have next : ∀ vo' H', OutS n0 H' vo' m (bs ++ [(c : Int)]) → Keep n0 H H' → Run Try.prog tab LL [(8, vd), (9, vc), (10, vo'), (11, .bool (c.testBit 0)), (12, .int .i64 ((8 * (s + 1) : Nat) : Int))] H' Q := by
      intro vo' H' o' k'
      refine ih' (bs ++ [(c : Int)]) vo' H' Q (Sl.keep k' hd hvd) (Sl.keep k' hc hvc) (fun b hb => h8 b (by simp [hb])) (by rw [hqs]; simp) (by simp [msym_len]; omega) (by omega) o' (by have := k'.1; omega) (by simp; omega) ?_
      intro vo2 H2 last2 j o2 k2
      exact hq vo2 H2 last2 j (by simpa using o2) (k'.trans k2)
    clear hdk hck d5 d4 c5 ih ih'
    have n0int : ((0 : Nat) : Int) = 0 := rfl
    rw [n0int] at inner
    rcases ho with ⟨rfl, rfl, rfl⟩ | ⟨vb, ov, ob, hdis⟩
    · have el : ∀ H, pLen (.slice none 0 0) H = some (.int .i64 0, H) := fun _ => rfl
      have fin : ∀ (p : Prop), (p → True) → True := fun _ _ => trivial
      cases hb2 : c.testBit 2 <;> cases hb3 : c.testBit 3 <;>
        (rw [hb2] at v5 u5
         rw [hb3] at v4 u5
         simp only [Bool.not_true, Bool.not_false, Bool.and_true, Bool.and_false, Bool.true_and, Bool.false_and] at u5
         simp only [xmfm_ReadParts_l1, ofArgs, run_seq, run_block, run_ops, run_skip, run_exit, run_ret, thenQ_normal, thenQ_exit, thenQ_ret, blockQ_normal, blockQ_exit, blockQ_ret, retQ_ret, retQ_normal, ops_nil, ops_none, got_some, ops_wT, ops_wTn, ops_wF, ops_wFn, ops_wU, dops_wT, dops_wTn, dops_wF, dops_wFn, dops_wU, run_condT, run_condF, alt2_int, altB_bool, altI_int, altBB_bool, v_min, v_max, v_not, v_neg, optEv_none, optEv_some, isSome'_none, isSome'_some, pExt0, pExt1, pExt2, Bool.false_and, Bool.true_and, Bool.not_true, Bool.not_false, cond_true, cond_false, dops_nil, dops_none, xval_call, v_mov, v_bin, v_len, v_ext, v_idxA, v_ld, v_st, v_app, v_appN, v_cvs, v_bs1, pBs1, v_slc, v_conv, v_fld, v_fldA, v_new, v_box, v_mks, v_copy, v_isnil, v_nilck, v_pick, ev, evs_nil, evs_cons, fr_get_cons, fr_put_nil, fr_put_cons, fr_put_some, fr_put_none, fr_keep_nil, fr_keep_cons, fr_has_nil, fr_has_cons, Option.bind_some, Option.map_some, xbin, ibin, xresult_eq, xress_nil, xress_tmp, resV, ex_some, if_true, if_false, ite_true, ite_false, reduceIte, reduceCtorEq, Nat.reduceEqDiff, Nat.reduceLT, Nat.reduceLeDiff, Int.reduceLT, Int.reduceLE, Nat.zero_add, Nat.reduceAdd, Bool.false_eq_true, decide_eq_true_eq, decide_eq_false_iff_not, true_implies, false_implies, and_true, true_and, e1, w1, hlt, decide_true, wx5, wx4, i5, i4, j5, v5, v4, u5]
         refine inner _ (by omega) rfl ?_
         simp only [ofArgs, run_seq, run_block, run_ops, run_skip, run_exit, run_ret, thenQ_normal, thenQ_exit, thenQ_ret, blockQ_normal, blockQ_exit, blockQ_ret, retQ_ret, retQ_normal, ops_nil, ops_none, got_some, ops_wT, ops_wTn, ops_wF, ops_wFn, ops_wU, dops_wT, dops_wTn, dops_wF, dops_wFn, dops_wU, run_condT, run_condF, alt2_int, altB_bool, altI_int, altBB_bool, v_min, v_max, v_not, v_neg, optEv_none, optEv_some, isSome'_none, isSome'_some, pExt0, pExt1, pExt2, Bool.false_and, Bool.true_and, Bool.not_true, Bool.not_false, cond_true, cond_false, dops_nil, dops_none, xval_call, v_mov, v_bin, v_len, v_ext, v_idxA, v_ld, v_st, v_app, v_appN, v_cvs, v_bs1, pBs1, v_slc, v_conv, v_fld, v_fldA, v_new, v_box, v_mks, v_copy, v_isnil, v_nilck, v_pick, ev, evs_nil, evs_cons, fr_get_cons, fr_put_nil, fr_put_cons, fr_put_some, fr_put_none, fr_keep_nil, fr_keep_cons, fr_has_nil, fr_has_cons, Option.bind_some, Option.map_some, xbin, ibin, xresult_eq, xress_nil, xress_tmp, resV, ex_some, if_true, if_false, ite_true, ite_false, reduceIte, reduceCtorEq, Nat.reduceEqDiff, Nat.reduceLT, Nat.reduceLeDiff, Int.reduceLT, Int.reduceLE, Nat.zero_add, Nat.reduceAdd, Bool.false_eq_true, decide_eq_true_eq, decide_eq_false_iff_not, true_implies, false_implies, and_true, true_and, el, pConv, wc, v_b2, pB2_sl, v_bs21, pS2_sl, beq_self_eq_true]
         refine first_part n0 (H.push ⟨[.int .u8 (c : Int)], 1, false, false⟩) false (.slice (some ⟨H.n, 0, none⟩) 1 1) [(c : Int)] (by simp; omega) ?_ _ ?_
         · exact Own.le (Own.pushed H [.int .u8 (c : Int)] 1 1 false rfl) hnn
         intro vo' H' o' k'
         simp only [ofArgs, run_seq, run_block, run_ops, run_skip, run_exit, run_ret, thenQ_normal, thenQ_exit, thenQ_ret, blockQ_normal, blockQ_exit, blockQ_ret, retQ_ret, retQ_normal, ops_nil, ops_none, got_some, ops_wT, ops_wTn, ops_wF, ops_wFn, ops_wU, dops_wT, dops_wTn, dops_wF, dops_wFn, dops_wU, run_condT, run_condF, alt2_int, altB_bool, altI_int, altBB_bool, v_min, v_max, v_not, v_neg, optEv_none, optEv_some, isSome'_none, isSome'_some, pExt0, pExt1, pExt2, Bool.false_and, Bool.true_and, Bool.not_true, Bool.not_false, cond_true, cond_false, dops_nil, dops_none, xval_call, v_mov, v_bin, v_len, v_ext, v_idxA, v_ld, v_st, v_app, v_appN, v_cvs, v_bs1, pBs1, v_slc, v_conv, v_fld, v_fldA, v_new, v_box, v_mks, v_copy, v_isnil, v_nilck, v_pick, ev, evs_nil, evs_cons, fr_get_cons, fr_put_nil, fr_put_cons, fr_put_some, fr_put_none, fr_keep_nil, fr_keep_cons, fr_has_nil, fr_has_cons, Option.bind_some, Option.map_some, xbin, ibin, xresult_eq, xress_nil, xress_tmp, resV, ex_some, if_true, if_false, ite_true, ite_false, reduceIte, reduceCtorEq, Nat.reduceEqDiff, Nat.reduceLT, Nat.reduceLeDiff, Int.reduceLT, Int.reduceLE, Nat.zero_add, Nat.reduceAdd, Bool.false_eq_true, decide_eq_true_eq, decide_eq_false_iff_not, true_implies, false_implies, and_true, true_and, wx8]
         exact next vo' H' o' (Keep.trans (HExt.keep (hext_push H _) hnn) k'))
    · obtain ⟨B, o, cp, blk, rfl, _⟩ := ov.1.live (by omega)
      have el : ∀ H, pLen (.slice (some ⟨B, o, none⟩) 1 cp) H = some (.int .i64 1, H) := fun _ => rfl
      have c10 : ((1 : Int) == 0) = false := rfl
      have w0 : IntKind.i64.wrap (1 - 1) = 0 := rfl
      have ei : pIdx 2 (.slice (some ⟨B, o, none⟩) 1 cp) (.int .i64 0) H = some (.pointer (some ⟨B, o, none⟩), H) := (ld_part ov.1).1
      have eld : pLd none (.pointer (some ⟨B, o + 1, none⟩)) H = some (vb, H) := pLd_one ov.1 1 vb rfl
      have stp : ∀ vb' H', OwnB n0 H' vb' (bs ++ [(c : Int)]) → Stp vb H vb' H' → Got (pSt 1 (.pointer (some ⟨B, o + 1, none⟩)) vb' H') fun v H2 => Run Try.prog tab LL [(8, vd), (9, vc), (10, .slice (some ⟨B, o, none⟩) 1 cp), (11, .bool (c.testBit 0)), (12, .int .i64 ((8 * (s + 1) : Nat) : Int))] H2 Q := by
        intro vb' H' ob' st
        have hd2 : ∀ b, inB (Value.slice (some ⟨B, o, none⟩) 1 cp) b → ¬ inB vb b := fun b h1 h2 => hdis b h2 h1
        have ov' := Own.stp st ov hd2
        obtain ⟨s1, s2⟩ := sl_slice ob'.1
        refine pSt_own (v := .slice (some ⟨B, o, none⟩) 1 cp) (j := 1) ov' (by simp) s1 s2 ?_
        intro H2 ov2 st2'
        have hap := st.apart ov hd2
        refine next _ H2 (.inr ⟨vb', by simpa using ov2, Own.stp st2' ob' (fun b h1 h2 => hap b h2 h1), fun b h1 h2 => hap b h2 h1⟩) ((st.keep ob hnn).trans (st2'.keep ov' (by have := st.n; omega)))
      cases hb2 : c.testBit 2 <;> cases hb3 : c.testBit 3 <;>
        (rw [hb2] at v5 u5
         rw [hb3] at v4 u5
         simp only [Bool.not_true, Bool.not_false, Bool.and_true, Bool.and_false, Bool.true_and, Bool.false_and] at u5
         simp only [xmfm_ReadParts_l1, ofArgs, run_seq, run_block, run_ops, run_skip, run_exit, run_ret, thenQ_normal, thenQ_exit, thenQ_ret, blockQ_normal, blockQ_exit, blockQ_ret, retQ_ret, retQ_normal, ops_nil, ops_none, got_some, ops_wT, ops_wTn, ops_wF, ops_wFn, ops_wU, dops_wT, dops_wTn, dops_wF, dops_wFn, dops_wU, run_condT, run_condF, alt2_int, altB_bool, altI_int, altBB_bool, v_min, v_max, v_not, v_neg, optEv_none, optEv_some, isSome'_none, isSome'_some, pExt0, pExt1, pExt2, Bool.false_and, Bool.true_and, Bool.not_true, Bool.not_false, cond_true, cond_false, dops_nil, dops_none, xval_call, v_mov, v_bin, v_len, v_ext, v_idxA, v_ld, v_st, v_app, v_appN, v_cvs, v_bs1, pBs1, v_slc, v_conv, v_fld, v_fldA, v_new, v_box, v_mks, v_copy, v_isnil, v_nilck, v_pick, ev, evs_nil, evs_cons, fr_get_cons, fr_put_nil, fr_put_cons, fr_put_some, fr_put_none, fr_keep_nil, fr_keep_cons, fr_has_nil, fr_has_cons, Option.bind_some, Option.map_some, xbin, ibin, xresult_eq, xress_nil, xress_tmp, resV, ex_some, if_true, if_false, ite_true, ite_false, reduceIte, reduceCtorEq, Nat.reduceEqDiff, Nat.reduceLT, Nat.reduceLeDiff, Int.reduceLT, Int.reduceLE, Nat.zero_add, Nat.reduceAdd, Bool.false_eq_true, decide_eq_true_eq, decide_eq_false_iff_not, true_implies, false_implies, and_true, true_and, e1, w1, hlt, decide_true, wx5, wx4, i5, i4, j5, v5, v4, u5]
         refine inner _ (by omega) rfl ?_
         simp only [ofArgs, run_seq, run_block, run_ops, run_skip, run_exit, run_ret, thenQ_normal, thenQ_exit, thenQ_ret, blockQ_normal, blockQ_exit, blockQ_ret, retQ_ret, retQ_normal, ops_nil, ops_none, got_some, ops_wT, ops_wTn, ops_wF, ops_wFn, ops_wU, dops_wT, dops_wTn, dops_wF, dops_wFn, dops_wU, run_condT, run_condF, alt2_int, altB_bool, altI_int, altBB_bool, v_min, v_max, v_not, v_neg, optEv_none, optEv_some, isSome'_none, isSome'_some, pExt0, pExt1, pExt2, Bool.false_and, Bool.true_and, Bool.not_true, Bool.not_false, cond_true, cond_false, dops_nil, dops_none, xval_call, v_mov, v_bin, v_len, v_ext, v_idxA, v_ld, v_st, v_app, v_appN, v_cvs, v_bs1, pBs1, v_slc, v_conv, v_fld, v_fldA, v_new, v_box, v_mks, v_copy, v_isnil, v_nilck, v_pick, ev, evs_nil, evs_cons, fr_get_cons, fr_put_nil, fr_put_cons, fr_put_some, fr_put_none, fr_keep_nil, fr_keep_cons, fr_has_nil, fr_has_cons, Option.bind_some, Option.map_some, xbin, ibin, xresult_eq, xress_nil, xress_tmp, resV, ex_some, if_true, if_false, ite_true, ite_false, reduceIte, reduceCtorEq, Nat.reduceEqDiff, Nat.reduceLT, Nat.reduceLeDiff, Int.reduceLT, Int.reduceLE, Nat.zero_add, Nat.reduceAdd, Bool.false_eq_true, decide_eq_true_eq, decide_eq_false_iff_not, true_implies, false_implies, and_true, true_and, el, c10, w0, ei, pNil_ptr, pFldA_ptr, eld, pConv, wc]
         refine app_oneB ob hnn (by omega) ?_
         intro vb' H' ob' st
         refine (stp vb' H' ob' st).mono ?_
         intro v H2 hr
         simp only [ofArgs, run_seq, run_block, run_ops, run_skip, run_exit, run_ret, thenQ_normal, thenQ_exit, thenQ_ret, blockQ_normal, blockQ_exit, blockQ_ret, retQ_ret, retQ_normal, ops_nil, ops_none, got_some, ops_wT, ops_wTn, ops_wF, ops_wFn, ops_wU, dops_wT, dops_wTn, dops_wF, dops_wFn, dops_wU, run_condT, run_condF, alt2_int, altB_bool, altI_int, altBB_bool, v_min, v_max, v_not, v_neg, optEv_none, optEv_some, isSome'_none, isSome'_some, pExt0, pExt1, pExt2, Bool.false_and, Bool.true_and, Bool.not_true, Bool.not_false, cond_true, cond_false, dops_nil, dops_none, xval_call, v_mov, v_bin, v_len, v_ext, v_idxA, v_ld, v_st, v_app, v_appN, v_cvs, v_bs1, pBs1, v_slc, v_conv, v_fld, v_fldA, v_new, v_box, v_mks, v_copy, v_isnil, v_nilck, v_pick, ev, evs_nil, evs_cons, fr_get_cons, fr_put_nil, fr_put_cons, fr_put_some, fr_put_none, fr_keep_nil, fr_keep_cons, fr_has_nil, fr_has_cons, Option.bind_some, Option.map_some, xbin, ibin, xresult_eq, xress_nil, xress_tmp, resV, ex_some, if_true, if_false, ite_true, ite_false, reduceIte, reduceCtorEq, Nat.reduceEqDiff, Nat.reduceLT, Nat.reduceLeDiff, Int.reduceLT, Int.reduceLE, Nat.zero_add, Nat.reduceAdd, Bool.false_eq_true, decide_eq_true_eq, decide_eq_false_iff_not, true_implies, false_implies, and_true, true_and, wx8]
         exact hr)
end Go.Proofs.Ytejedmocjdcdgaa.D

set_option linter.unusedSimpArgs false
set_option linter.unusedVariables false
namespace Go.Proofs.Ytejedmocjdcdgaa.D
open Go Go.Det

/-! ### bytes and marks, one behind the other -/
abbrev It := Bool × Nat
def isym : List It → Bool → List Bool
  | [], _ => []
  | p :: r, last => msym p.2 p.1 8 last ++ isym r (p.2.testBit 0)
def ilast : List It → Bool → Bool
  | [], last => last
  | p :: r, _ => ilast r (p.2.testBit 0)
theorem isym_len (l : List It) : ∀ last, (isym l last).length = 16 * l.length := by
  induction l with
  | nil => intro last; rfl
  | cons p l ih => intro last; simp only [isym, List.length_append, msym_len, ih, List.length_cons]; omega
theorem isym_app (l r : List It) : ∀ last, isym (l ++ r) last = isym l last ++ isym r (ilast l last) := by
  induction l with
  | nil => intro last; rfl
  | cons p l ih => intro last; simp only [List.cons_append, isym, ilast, ih, List.append_assoc]
theorem ilast_app (l r : List It) : ∀ last, ilast (l ++ r) last = ilast r (ilast l last) := by
  induction l with
  | nil => intro last; rfl
  | cons p l ih => intro last; simp only [List.cons_append, ilast, ih]
def byI (a : List Int) : List It := a.map fun c => (false, c.toNat)
theorem isym_by (a : List Int) : ∀ last, isym (byI a) last = syms a last := by
  induction a with
  | nil => intro last; rfl
  | cons c a ih => intro last; simp only [byI, List.map_cons, isym, syms] at ih ⊢; rw [ih]
theorem ilast_by (a : List Int) : ∀ last, ilast (byI a) last = lastOf a last := by
  induction a with
  | nil => intro last; rfl
  | cons c a ih => intro last; simp only [byI, List.map_cons, ilast, lastOf] at ih ⊢; rw [ih]
abbrev Pt := Bool × List Int
def items (p : Pt) : List It := (if p.1 then [(true, 161)] else []) ++ byI p.2
def itemsL (ps : List Pt) : List It := ps.flatMap items
def fullI (l : List It) : List Bool := isym l true ++ [false, true]
theorem fullI_len (l : List It) : (fullI l).length = 2 * (8 * l.length + 1) := by
  unfold fullI; simp [isym_len]; omega
def ItOk (l : List It) : Prop := ∀ p ∈ l, p.2 < 256 ∧ (p.1 = true → p.2 = 161)
theorem gb_markL (q : List Bool) (last : Bool) (h : GB q last) : GB (q ++ msym 161 true 8 last) ((161 : Nat).testBit 0) := by
  obtain ⟨h1, h2, h3⟩ := h
  have e : msym 161 true 8 last = [false, true, false, false, false, true, false, false, true, false, false, false, true, false, false, true] := by cases last <;> decide
  have eg : gaps (q ++ msym 161 true 8 last) = ((gaps q).1 ++ [(((gaps q).2 + 2 : Nat) : Int), 4, 3, 4, 3], 0) := by
    rw [e, gaps_app]
    generalize gaps q = s
    simp [plc]
    omega
  unfold GB
  rw [eg]
  refine ⟨fun g hg => ?_, by simp, fun _ => rfl⟩
  simp only [List.mem_append, List.mem_cons, List.not_mem_nil, or_false] at hg
  rcases hg with hg | hg | hg | hg | hg | hg
  · exact h1 g hg
  all_goals omega
theorem gb_isym (l : List It) : ∀ q last, GB q last → ItOk l → GB (q ++ isym l last) (ilast l last) := by
  induction l with
  | nil => intro q last h _; simpa [isym, ilast] using h
  | cons p l ih =>
    intro q last h hok
    obtain ⟨m, c⟩ := p
    simp only [isym, ilast]
    rw [← List.append_assoc]
    refine ih _ _ ?_ (fun x hx => hok x (by simp [hx]))
    cases m
    · have := gb_sym c 8 q last h
      simpa using this
    · have := (hok (true, c) (by simp)).2 rfl
      simp only at this
      subst this
      exact gb_markL q last h
theorem fullI_gb (l : List It) (hok : ItOk l) : (∀ g ∈ (gaps (fullI l)).1, 1 ≤ g ∧ g ≤ 4) ∧ (gaps (fullI l)).2 = 0 := by
  have h0 : GB [] true := ⟨by simp [gaps], by simp [gaps], fun _ => rfl⟩
  have h := gb_isym l [] true h0 hok
  simp only [List.nil_append] at h
  obtain ⟨h1, h2, h3⟩ := h
  have eg : gaps (fullI l) = ((gaps (isym l true)).1 ++ [(((gaps (isym l true)).2 + 2 : Nat) : Int)], 0) := by
    unfold fullI
    rw [gaps_app]
    generalize gaps (isym l true) = s
    simp [plc]
    omega
  refine ⟨fun g hg => ⟨gaps_pos _ g hg, ?_⟩, by rw [eg]⟩
  rw [eg] at hg
  simp only [List.mem_append, List.mem_cons, List.not_mem_nil, or_false] at hg
  rcases hg with hg | hg
  · exact h1 g hg
  · omega

/-! ### the parts that are read -/
def addB (c : Int) : List Pt → List Pt
  | [] => [(false, [c])]
  | [p] => [(p.1, p.2 ++ [c])]
  | p :: q :: r => p :: addB c (q :: r)
theorem addB_snoc (c : Int) (li : List Pt) (p : Pt) : addB c (li ++ [p]) = li ++ [(p.1, p.2 ++ [c])] := by
  induction li with
  | nil => rfl
  | cons x li ih =>
    cases li with
    | nil => rfl
    | cons y li => simp only [List.cons_append, addB] at ih ⊢; rw [ih]
def rdI (ps : List Pt) (p : It) : List Pt := if p.1 then ps ++ [(true, [])] else addB (p.2 : Int) ps
theorem rd_by (a : List Int) (h8 : B8 a) (li : List Pt) : ∀ (m : Bool) (bs : List Int), (byI a).foldl rdI (li ++ [(m, bs)]) = li ++ [(m, bs ++ a)] := by
  induction a with
  | nil => intro m bs; simp [byI]
  | cons c a ih =>
    intro m bs
    have hc := h8 c (by simp)
    have e : ((c.toNat : Nat) : Int) = c := by omega
    show (byI a).foldl rdI (rdI (li ++ [(m, bs)]) (false, c.toNat)) = _
    have : rdI (li ++ [(m, bs)]) (false, c.toNat) = li ++ [(m, bs ++ [c])] := by
      show addB ((c.toNat : Nat) : Int) (li ++ [(m, bs)]) = _
      rw [addB_snoc, e]
    rw [this, ih (fun b hb => h8 b (by simp [hb]))]
    simp
theorem rd_marks (ps : List Pt) : ∀ li, (∀ p ∈ ps, p.1 = true) → (∀ p ∈ ps, B8 p.2) → (itemsL ps).foldl rdI li = li ++ ps := by
  induction ps with
  | nil => intro li _ _; simp [itemsL]
  | cons p ps ih =>
    intro li h1 h8
    obtain ⟨m, bs⟩ := p
    have hm : m = true := h1 (m, bs) (by simp)
    subst hm
    have e : itemsL ((true, bs) :: ps) = (true, 161) :: (byI bs ++ itemsL ps) := by simp [itemsL, items]
    rw [e]
    show (byI bs ++ itemsL ps).foldl rdI (li ++ [(true, [])]) = _
    rw [List.foldl_append, rd_by bs (h8 (true, bs) (by simp)) li true [], ih _ (fun p hp => h1 p (by simp [hp])) (fun p hp => h8 p (by simp [hp]))]
    simp
/-- parts as they are read: the first one may be without a mark, if it has bytes -/
def Canon (ps : List Pt) : Prop := (∀ p ∈ ps, B8 p.2) ∧ (∀ p ∈ ps.tail, p.1 = true) ∧ (∀ p, ps.head? = some p → p.1 = true ∨ p.2 ≠ [])
theorem rd_canon (ps : List Pt) (h : Canon ps) : (itemsL ps).foldl rdI [] = ps := by
  obtain ⟨h8, h1, h2⟩ := h
  cases ps with
  | nil => rfl
  | cons p ps =>
    obtain ⟨m, bs⟩ := p
    cases m with
    | true =>
      have := rd_marks ((true, bs) :: ps) [] (fun p hp => by
        rcases List.mem_cons.1 hp with rfl | h
        · rfl
        · exact h1 p h) h8
      simpa using this
    | false =>
      have hne : bs ≠ [] := by
        rcases h2 (false, bs) rfl with h | h
        · cases h
        · exact h
      cases bs with
      | nil => exact absurd rfl hne
      | cons c a =>
        have hb := h8 (false, c :: a) (by simp)
        have hc := hb c (by simp)
        have e : itemsL ((false, c :: a) :: ps) = (false, c.toNat) :: (byI a ++ itemsL ps) := by simp [itemsL, items, byI]
        rw [e]
        show (byI a ++ itemsL ps).foldl rdI [(false, [((c.toNat : Nat) : Int)])] = _
        have ec : ((c.toNat : Nat) : Int) = c := by omega
        have r1 := rd_by a (fun b hx => hb b (by simp [hx])) [] false [c]
        rw [ec, List.foldl_append, show [(false, [c])] = [] ++ [(false, [c])] from rfl, r1, rd_marks ps _ h1 (fun p hp => h8 p (by simp [hp]))]
        simp
theorem items_ok (ps : List Pt) (h8 : ∀ p ∈ ps, B8 p.2) : ItOk (itemsL ps) := by
  intro x hx
  unfold itemsL items byI at hx
  simp only [List.mem_flatMap, List.mem_append, List.mem_map] at hx
  obtain ⟨p, hp, h | ⟨c, hc, rfl⟩⟩ := hx
  · cases hm : p.1 <;> rw [hm] at h
    · simp at h
    · simp at h; subst h; exact ⟨by decide, fun _ => rfl⟩
  · have := h8 p hp c hc
    exact ⟨by show c.toNat < 256; omega, fun h => by cases h⟩
def szP (ps : List Pt) : Nat := (itemsL ps).length
theorem szP_cons (p : Pt) (ps : List Pt) : szP (p :: ps) = (p.2.length + (if p.1 then 1 else 0)) + szP ps := by
  unfold szP itemsL items byI
  simp only [List.flatMap_cons, List.length_append, List.length_map]
  cases p.1 <;> simp <;> omega
end Go.Proofs.Ytejedmocjdcdgaa.D

set_option linter.unusedSimpArgs false
set_option linter.unusedVariables false
namespace Go.Proofs.Ytejedmocjdcdgaa.D
open Go Go.Det

/-! ### the writer of mfm, beside a block E that stays -/
def WrE (n0 E : Nat) (H : AH) (W : Nat) (q : List Bool) (last : Bool) : Prop :=
  W < n0 ∧ n0 ≤ H.n ∧ ∃ vl, H.get W = some ⟨[vl, .int .i64 ((gaps q).2 : Nat), .bool last], 1, false, false⟩ ∧ OwnI n0 H vl (gaps q).1 ∧ (E < H.n ∧ E ≠ W ∧ ¬ inB vl E)
def KeepE (n0 E W : Nat) (H H' : AH) : Prop := KeepB n0 W H H' ∧ H'.get E = H.get E
theorem KeepE.refl (n0 E W : Nat) (H : AH) : KeepE n0 E W H H := ⟨KeepB.refl n0 W H, rfl⟩
theorem KeepE.trans {n0 E W : Nat} {A B C : AH} (h : KeepE n0 E W A B) (k : KeepE n0 E W B C) : KeepE n0 E W A C := ⟨h.1.trans k.1, k.2.trans h.2⟩
theorem ksetE (n0 E W : Nat) (H : AH) (blk : Blk) (hE : E ≠ W) : KeepE n0 E W H (H.set W blk) := ⟨kset n0 W H blk, by rw [AH.get_set, if_neg hE]⟩
theorem place_wE (n0 E : Nat) (H : AH) (W : Nat) (q : List Bool) (last b : Bool) (Q : Value → AH → Prop) (hw : WrE n0 E H W q last) (hq2 : q.length ≤ 100000) (hq : ∀ H', WrE n0 E H' W (q ++ [b]) last → KeepE n0 E W H H' → Q (.tuple #[]) H') :
    Got (xc Try.prog tab 77 [.pointer (some ⟨W, 0, none⟩), .bool b] H) Q := by
  refine got_call (res := []) rfl ?_
  obtain ⟨hW, hn, vl, hg, ho, hE⟩ := hw
  have hgl := gaps_len q
  have hE1 := hE.1
  have e1 := ld3_1 hg
  have w1 := wrI ((((gaps q).2 : Nat) : Int) + 1) (by omega) (by omega)
  have e2 := st3_1 (b' := .int .i64 ((((gaps q).2 : Nat) : Int) + 1)) hg rfl rfl
  have g2 : (H.set W ⟨[vl, .int .i64 ((((gaps q).2 : Nat) : Int) + 1), .bool last], 1, false, false⟩).get W = some ⟨[vl, .int .i64 ((((gaps q).2 : Nat) : Int) + 1), .bool last], 1, false, false⟩ := by rw [AH.get_set, if_pos rfl]
  have ho2 : OwnI n0 (H.set W ⟨[vl, .int .i64 ((((gaps q).2 : Nat) : Int) + 1), .bool last], 1, false, false⟩) vl (gaps q).1 := by
    refine Own.set ho rfl fun b hb => ?_
    obtain ⟨o, l, c, e⟩ := hb
    have := (ho.2 b o l c e).1
    rw [AH.get_set, if_neg (by omega)]
  have k2 : KeepE n0 E W H (H.set W ⟨[vl, .int .i64 ((((gaps q).2 : Nat) : Int) + 1), .bool last], 1, false, false⟩) := ⟨⟨Nat.le_refl _, fun b _ hb => by rw [AH.get_set, if_neg hb]⟩, by rw [AH.get_set, if_neg hE.2.1]⟩
  have hn2 : (H.set W ⟨[vl, .int .i64 ((((gaps q).2 : Nat) : Int) + 1), .bool last], 1, false, false⟩).n = H.n := rfl
  cases b with
  | false =>
    simp only [ofArgs, run_seq, run_block, run_ops, run_skip, run_exit, run_ret, thenQ_normal, thenQ_exit, thenQ_ret, blockQ_normal, blockQ_exit, blockQ_ret, retQ_ret, retQ_normal, ops_nil, ops_none, got_some, ops_wT, ops_wTn, ops_wF, ops_wFn, ops_wU, dops_wT, dops_wTn, dops_wF, dops_wFn, dops_wU, run_condT, run_condF, alt2_int, altB_bool, altI_int, altBB_bool, v_min, v_max, v_not, v_neg, optEv_none, optEv_some, isSome'_none, isSome'_some, pExt0, pExt1, pExt2, Bool.false_and, Bool.true_and, Bool.not_true, Bool.not_false, cond_true, cond_false, dops_nil, dops_none, xval_call, v_mov, v_bin, v_len, v_ext, v_idxA, v_ld, v_st, v_app, v_appN, v_cvs, v_bs1, pBs1, v_slc, v_conv, v_fld, v_fldA, v_new, v_box, v_mks, v_copy, v_isnil, v_nilck, v_pick, ev, evs_nil, evs_cons, fr_get_cons, fr_put_nil, fr_put_cons, fr_put_some, fr_put_none, fr_keep_nil, fr_keep_cons, fr_has_nil, fr_has_cons, Option.bind_some, Option.map_some, xbin, ibin, xresult_eq, xress_nil, xress_tmp, resV, ex_some, if_true, if_false, ite_true, ite_false, reduceIte, reduceCtorEq, Nat.reduceEqDiff, Nat.reduceLT, Nat.reduceLeDiff, Int.reduceLT, Int.reduceLE, Nat.zero_add, Nat.reduceAdd, Bool.false_eq_true, decide_eq_true_eq, decide_eq_false_iff_not, true_implies, false_implies, and_true, true_and, pNil_ptr, pFldA_ptr, e1, w1, e2]
    refine hq _ ⟨hW, by omega, vl, ?_, ?_, hE⟩ k2
    · rw [gaps_snoc]; exact g2
    · rw [gaps_snoc]; exact ho2
  | true =>
    simp only [ofArgs, run_seq, run_block, run_ops, run_skip, run_exit, run_ret, thenQ_normal, thenQ_exit, thenQ_ret, blockQ_normal, blockQ_exit, blockQ_ret, retQ_ret, retQ_normal, ops_nil, ops_none, got_some, ops_wT, ops_wTn, ops_wF, ops_wFn, ops_wU, dops_wT, dops_wTn, dops_wF, dops_wFn, dops_wU, run_condT, run_condF, alt2_int, altB_bool, altI_int, altBB_bool, v_min, v_max, v_not, v_neg, optEv_none, optEv_some, isSome'_none, isSome'_some, pExt0, pExt1, pExt2, Bool.false_and, Bool.true_and, Bool.not_true, Bool.not_false, cond_true, cond_false, dops_nil, dops_none, xval_call, v_mov, v_bin, v_len, v_ext, v_idxA, v_ld, v_st, v_app, v_appN, v_cvs, v_bs1, pBs1, v_slc, v_conv, v_fld, v_fldA, v_new, v_box, v_mks, v_copy, v_isnil, v_nilck, v_pick, ev, evs_nil, evs_cons, fr_get_cons, fr_put_nil, fr_put_cons, fr_put_some, fr_put_none, fr_keep_nil, fr_keep_cons, fr_has_nil, fr_has_cons, Option.bind_some, Option.map_some, xbin, ibin, xresult_eq, xress_nil, xress_tmp, resV, ex_some, if_true, if_false, ite_true, ite_false, reduceIte, reduceCtorEq, Nat.reduceEqDiff, Nat.reduceLT, Nat.reduceLeDiff, Int.reduceLT, Int.reduceLE, Nat.zero_add, Nat.reduceAdd, Bool.false_eq_true, decide_eq_true_eq, decide_eq_false_iff_not, true_implies, false_implies, and_true, true_and, pNil_ptr, pFldA_ptr, e1, w1, e2]
    generalize (H.set W ⟨[vl, .int .i64 ((((gaps q).2 : Nat) : Int) + 1), .bool last], 1, false, false⟩) = H2 at g2 ho2 k2 hn2
    have e3 := ld3_0 g2
    have e4 := ld3_1 g2
    have hvq := Sl.veq ho2.1
    refine run_dopsS _ _ _ _ _ ?_
    simp only [ofArgs, run_seq, run_block, run_ops, run_skip, run_exit, run_ret, thenQ_normal, thenQ_exit, thenQ_ret, blockQ_normal, blockQ_exit, blockQ_ret, retQ_ret, retQ_normal, ops_nil, ops_none, got_some, ops_wT, ops_wTn, ops_wF, ops_wFn, ops_wU, dops_wT, dops_wTn, dops_wF, dops_wFn, dops_wU, run_condT, run_condF, alt2_int, altB_bool, altI_int, altBB_bool, v_min, v_max, v_not, v_neg, optEv_none, optEv_some, isSome'_none, isSome'_some, pExt0, pExt1, pExt2, Bool.false_and, Bool.true_and, Bool.not_true, Bool.not_false, cond_true, cond_false, dops_nil, dops_none, xval_call, v_mov, v_bin, v_len, v_ext, v_idxA, v_ld, v_st, v_app, v_appN, v_cvs, v_bs1, pBs1, v_slc, v_conv, v_fld, v_fldA, v_new, v_box, v_mks, v_copy, v_isnil, v_nilck, v_pick, ev, evs_nil, evs_cons, fr_get_cons, fr_put_nil, fr_put_cons, fr_put_some, fr_put_none, fr_keep_nil, fr_keep_cons, fr_has_nil, fr_has_cons, Option.bind_some, Option.map_some, xbin, ibin, xresult_eq, xress_nil, xress_tmp, resV, ex_some, if_true, if_false, ite_true, ite_false, reduceIte, reduceCtorEq, Nat.reduceEqDiff, Nat.reduceLT, Nat.reduceLeDiff, Int.reduceLT, Int.reduceLE, Nat.zero_add, Nat.reduceAdd, Bool.false_eq_true, decide_eq_true_eq, decide_eq_false_iff_not, true_implies, false_implies, and_true, true_and, dr_nil, dr_cons, hs0, hs1, hs2, hs3, addC_nil, addC_cons, stabAll_nil, stabAll_cons, stab1_nil, stab1_cons, hat_cons, xval_wT, xval_wTn, xval_wF, xval_wFn, veq_int, veq_bool, veq_ptr, veq_sl, pNil_ptr, pFldA_ptr, e3, e4]
    refine app_one ho2 (by omega) (by omega) ?_
    intro vl' H3 o3 st
    have hWv : ∀ b, b < n0 → ¬ inB vl b := fun b hb ⟨o, l, c, e⟩ => by have := (ho2.2 b o l c e).1; omega
    have g3 : H3.get W = some ⟨[vl, .int .i64 ((((gaps q).2 : Nat) : Int) + 1), .bool last], 1, false, false⟩ := by rw [st.get W (by omega) (hWv W hW)]; exact g2
    obtain ⟨s1, s2⟩ := sl_slice o3.1
    have e5 := st3_0 g3 s1 s2
    have g4 : (H3.set W ⟨[vl', .int .i64 ((((gaps q).2 : Nat) : Int) + 1), .bool last], 1, false, false⟩).get W = some ⟨[vl', .int .i64 ((((gaps q).2 : Nat) : Int) + 1), .bool last], 1, false, false⟩ := by rw [AH.get_set, if_pos rfl]
    have e6 := st3_1 (b' := .int .i64 0) g4 rfl rfl
    have gpush : (H2.push ⟨[.int .i64 ((((gaps q).2 : Nat) : Int) + 1)], 1, false, false⟩).get W = some ⟨[vl, .int .i64 ((((gaps q).2 : Nat) : Int) + 1), .bool last], 1, false, false⟩ := by rw [AH.get_push, if_neg (by omega)]; exact g2
    have e7 := ld3_0 gpush
    have hn3 := st.n
    have hE1 := hE.1
    simp only [ofArgs, run_seq, run_block, run_ops, run_skip, run_exit, run_ret, thenQ_normal, thenQ_exit, thenQ_ret, blockQ_normal, blockQ_exit, blockQ_ret, retQ_ret, retQ_normal, ops_nil, ops_none, got_some, ops_wT, ops_wTn, ops_wF, ops_wFn, ops_wU, dops_wT, dops_wTn, dops_wF, dops_wFn, dops_wU, run_condT, run_condF, alt2_int, altB_bool, altI_int, altBB_bool, v_min, v_max, v_not, v_neg, optEv_none, optEv_some, isSome'_none, isSome'_some, pExt0, pExt1, pExt2, Bool.false_and, Bool.true_and, Bool.not_true, Bool.not_false, cond_true, cond_false, dops_nil, dops_none, xval_call, v_mov, v_bin, v_len, v_ext, v_idxA, v_ld, v_st, v_app, v_appN, v_cvs, v_bs1, pBs1, v_slc, v_conv, v_fld, v_fldA, v_new, v_box, v_mks, v_copy, v_isnil, v_nilck, v_pick, ev, evs_nil, evs_cons, fr_get_cons, fr_put_nil, fr_put_cons, fr_put_some, fr_put_none, fr_keep_nil, fr_keep_cons, fr_has_nil, fr_has_cons, Option.bind_some, Option.map_some, xbin, ibin, xresult_eq, xress_nil, xress_tmp, resV, ex_some, if_true, if_false, ite_true, ite_false, reduceIte, reduceCtorEq, Nat.reduceEqDiff, Nat.reduceLT, Nat.reduceLeDiff, Int.reduceLT, Int.reduceLE, Nat.zero_add, Nat.reduceAdd, Bool.false_eq_true, decide_eq_true_eq, decide_eq_false_iff_not, true_implies, false_implies, and_true, true_and, dr_nil, dr_cons, hs0, hs1, hs2, hs3, addC_nil, addC_cons, stabAll_nil, stabAll_cons, stab1_nil, stab1_cons, hat_cons, xval_wT, xval_wTn, xval_wF, xval_wFn, veq_int, veq_bool, veq_ptr, veq_sl, pNil_ptr, pFldA_ptr, e5, e6, e7, hvq]
    refine hq _ ⟨hW, by show n0 ≤ H3.n; omega, vl', ?_, ?_, ⟨by show E < H3.n; omega, hE.2.1, fun h => by
      rcases st.new E h with h1 | h1
      · exact hE.2.2 h1
      · omega⟩⟩ ?_
    · rw [gaps_snoc, AH.get_set, if_pos rfl]; rfl
    · rw [gaps_snoc]
      have ho3 : OwnI n0 H3 vl' ((gaps q).1 ++ [((((gaps q).2 + 1 : Nat)) : Int)]) := o3
      refine Own.set ho3 rfl fun b hb => ?_
      obtain ⟨o, l, c, e⟩ := hb
      have := (o3.2 b o l c e).1
      rw [AH.get_set, if_neg (by omega), AH.get_set, if_neg (by omega)]
    · refine k2.trans ⟨⟨hn3, fun b hb hbw => ?_⟩, ?_⟩
      · rw [AH.get_set, if_neg hbw, AH.get_set, if_neg hbw, st.get b (by omega) (hWv b hb)]
      · rw [AH.get_set, if_neg hE.2.1, AH.get_set, if_neg hE.2.1, st.get E (by omega) hE.2.2]

set_option maxHeartbeats 8000000 in
theorem put_l0E (n0 E W c : Nat) (hc : c < 256) (mark : Bool) (r : Nat) : ∀ (q : List Bool) (last : Bool) (H : AH) (i : Int) (Q : XExit → Fr → AH → Prop), WrE n0 E H W q last → q.length + 2 * r ≤ 100000 → r ≤ 8 → i = 8 - (r : Int) →
    (∀ H', WrE n0 E H' W (q ++ msym c mark r last) (if r = 0 then last else c.testBit 0) → KeepE n0 E W H H' → Q (.exit 0) [(0, .pointer (some ⟨W, 0, none⟩)), (1, .int .u8 c), (2, .bool mark), (8, .int .i64 8), (9, .bool false)] H') →
    Run Try.prog tab (.loop xmfm_writer_put_l0) [(0, .pointer (some ⟨W, 0, none⟩)), (1, .int .u8 c), (2, .bool mark), (8, .int .i64 i)] H Q := by
  induction r with
  | zero =>
    intro q last H i Q hw hl hr hi hq
    rw [run_loop]
    generalize hL : XCode.loop xmfm_writer_put_l0 = LL
    obtain rfl : i = 8 := by omega
    simp only [xmfm_writer_put_l0, ofArgs, run_seq, run_block, run_ops, run_skip, run_exit, run_ret, thenQ_normal, thenQ_exit, thenQ_ret, blockQ_normal, blockQ_exit, blockQ_ret, retQ_ret, retQ_normal, ops_nil, ops_none, got_some, ops_wT, ops_wTn, ops_wF, ops_wFn, ops_wU, dops_wT, dops_wTn, dops_wF, dops_wFn, dops_wU, run_condT, run_condF, alt2_int, altB_bool, altI_int, altBB_bool, v_min, v_max, v_not, v_neg, optEv_none, optEv_some, isSome'_none, isSome'_some, pExt0, pExt1, pExt2, Bool.false_and, Bool.true_and, Bool.not_true, Bool.not_false, cond_true, cond_false, dops_nil, dops_none, xval_call, v_mov, v_bin, v_len, v_ext, v_idxA, v_ld, v_st, v_app, v_appN, v_cvs, v_bs1, pBs1, v_slc, v_conv, v_fld, v_fldA, v_new, v_box, v_mks, v_copy, v_isnil, v_nilck, v_pick, ev, evs_nil, evs_cons, fr_get_cons, fr_put_nil, fr_put_cons, fr_put_some, fr_put_none, fr_keep_nil, fr_keep_cons, fr_has_nil, fr_has_cons, Option.bind_some, Option.map_some, xbin, ibin, xresult_eq, xress_nil, xress_tmp, resV, ex_some, if_true, if_false, ite_true, ite_false, reduceIte, reduceCtorEq, Nat.reduceEqDiff, Nat.reduceLT, Nat.reduceLeDiff, Int.reduceLT, Int.reduceLE, Nat.zero_add, Nat.reduceAdd, Bool.false_eq_true, decide_eq_true_eq, decide_eq_false_iff_not, true_implies, false_implies, and_true, true_and, Int.lt_irrefl, decide_false]
    exact hq H (by simpa [msym] using hw) (KeepE.refl _ _ _ _)
  | succ r ih =>
    intro q last H i Q hw hl hr hi hq
    have ih' := ih
    rw [run_loop]
    generalize hL : XCode.loop xmfm_writer_put_l0 = LL
    rw [hL] at ih'
    have hlt : i < 8 := by omega
    have w1 : IntKind.i64.wrap (7 - i) = (r : Int) := by rw [wrI _ (by omega) (by omega)]; omega
    have c2 : ¬ (r : Int) < 0 := by omega
    have t1 : min (Int.toNat (r : Int)) IntKind.u8.bits = r := by
      rw [Int.toNat_natCast]; show min _ 8 = _; omega
    have t2 := shrN c r
    have t3 := b_and (c >>> r) 1 (by rw [Nat.shiftRight_eq_div_pow]; exact Nat.lt_of_le_of_lt (Nat.div_le_self _ _) hc) (by omega)
    have n1 : ((1 : Nat) : Int) = 1 := rfl
    rw [n1] at t3
    have t4 := and1 c r
    have e5 : (i == 5) = decide (r = 2) := by
      by_cases h : r = 2
      · subst h; obtain rfl : i = 5 := by omega
        rfl
      · have : ¬ i = 5 := by omega
        simp [h, this]
    have hw0 := hw
    obtain ⟨hW, hn, vl, hg, ho, hE⟩ := hw
    have e1 := ld3_2 hg
    have hcl : ∀ (Q : Value → AH → Prop), (∀ H', WrE n0 E H' W (q ++ [(!(c.testBit r) && !last && !(mark && decide (r = 2)))]) last → KeepE n0 E W H H' → Q (.tuple #[]) H') → Got (xc Try.prog tab 77 [.pointer (some ⟨W, 0, none⟩), .bool (!(c.testBit r) && !last && !(mark && decide (r = 2)))] H) Q :=
      fun Q h => place_wE n0 E H W q last _ Q hw0 (by omega) h
    generalize hbit : c.testBit r = bit at t4 hcl
    have rest : ∀ H1, WrE n0 E H1 W (q ++ [(!bit && !last && !(mark && decide (r = 2)))]) last → KeepE n0 E W H H1 → ∀ H2, WrE n0 E H2 W (q ++ [(!bit && !last && !(mark && decide (r = 2)))] ++ [bit]) last → KeepE n0 E W H1 H2 →
        ∃ vl2, H2.get W = some ⟨[vl2, .int .i64 ((gaps (q ++ [(!bit && !last && !(mark && decide (r = 2)))] ++ [bit])).2 : Nat), .bool last], 1, false, false⟩ ∧
          Run Try.prog tab LL [(0, .pointer (some ⟨W, 0, none⟩)), (1, .int .u8 c), (2, .bool mark), (8, .int .i64 (i + 1))] (H2.set W ⟨[vl2, .int .i64 ((gaps (q ++ [(!bit && !last && !(mark && decide (r = 2)))] ++ [bit])).2 : Nat), .bool bit], 1, false, false⟩) Q := by
      intro H1 w1' k1 H2 w2' k2
      obtain ⟨_, hn2, vl2, hg2, ho2, hE2⟩ := w2'
      refine ⟨vl2, hg2, ?_⟩
      have w3 : WrE n0 E (H2.set W ⟨[vl2, .int .i64 ((gaps (q ++ [(!bit && !last && !(mark && decide (r = 2)))] ++ [bit])).2 : Nat), .bool bit], 1, false, false⟩) W (q ++ [(!bit && !last && !(mark && decide (r = 2)))] ++ [bit]) bit := by
        refine ⟨hW, hn2, vl2, by rw [AH.get_set, if_pos rfl], Own.set ho2 rfl fun b hb => ?_, hE2⟩
        obtain ⟨o, l, c, e⟩ := hb
        have := (ho2.2 b o l c e).1
        rw [AH.get_set, if_neg (by omega)]
      refine ih' _ bit _ (i + 1) Q w3 (by simp; omega) (by omega) (by omega) ?_
      intro H4 w4 k4
      have em : q ++ [(!bit && !last && !(mark && decide (r = 2)))] ++ [bit] ++ msym c mark r bit = q ++ msym c mark (r + 1) last := by
        simp [msym, hbit]
      rw [em] at w4
      refine hq H4 ?_ (((k1.trans k2).trans (ksetE n0 E W H2 _ hE.2.1)).trans k4)
      have : (if r + 1 = 0 then last else c.testBit 0) = (if r = 0 then bit else c.testBit 0) := by
        rw [if_neg (by omega)]
        by_cases h : r = 0
        · subst h; simp [hbit]
        · rw [if_neg h]
      rw [this]; exact w4
    have fin : ∀ (Q' : Value → AH → Prop), (∀ H1, WrE n0 E H1 W (q ++ [(!bit && !last && !(mark && decide (r = 2)))]) last → KeepE n0 E W H H1 → Q' (.tuple #[]) H1) → Got (xc Try.prog tab 77 [.pointer (some ⟨W, 0, none⟩), .bool (!bit && !last && !(mark && decide (r = 2)))] H) Q' := hcl
    have w4 := wrI (i + 1) (by omega) (by omega)
    generalize hcb : (!bit && !last && !(mark && decide (r = 2))) = cb at rest fin
    have close : Got (xc Try.prog tab 77 [.pointer (some ⟨W, 0, none⟩), .bool cb] H) fun v H1 => Got (xc Try.prog tab 77 [.pointer (some ⟨W, 0, none⟩), .bool bit] H1) fun v2 H2 => ∃ vl2 g, H2.get W = some ⟨[vl2, .int .i64 g, .bool last], 1, false, false⟩ ∧
        Run Try.prog tab LL [(0, .pointer (some ⟨W, 0, none⟩)), (1, .int .u8 c), (2, .bool mark), (8, .int .i64 (i + 1))] (H2.set W ⟨[vl2, .int .i64 g, .bool bit], 1, false, false⟩) Q := by
      refine fin _ ?_
      intro H1 w1' k1
      refine place_wE n0 E H1 W _ last bit _ w1' (by simp; omega) ?_
      intro H2 w2' k2
      obtain ⟨vl2, h1, h2⟩ := rest H1 w1' k1 H2 w2' k2
      exact ⟨vl2, _, h1, h2⟩
    clear rest fin hcl hq ih ih'
    have done : ∀ {P1 : Value → AH → Prop}, (∀ v H1, (Got (xc Try.prog tab 77 [.pointer (some ⟨W, 0, none⟩), .bool bit] H1) fun v2 H2 => ∃ vl2 g, H2.get W = some ⟨[vl2, .int .i64 g, .bool last], 1, false, false⟩ ∧
        Run Try.prog tab LL [(0, .pointer (some ⟨W, 0, none⟩)), (1, .int .u8 c), (2, .bool mark), (8, .int .i64 (i + 1))] (H2.set W ⟨[vl2, .int .i64 g, .bool bit], 1, false, false⟩) Q) → P1 v H1) → Got (xc Try.prog tab 77 [.pointer (some ⟨W, 0, none⟩), .bool cb] H) P1 :=
      fun h => close.mono h
    rcases (Bool.eq_false_or_eq_true (decide (r = 2))) with hd | hd <;> cases bit <;> cases last <;> cases mark <;>
      (rw [hd] at e5
       simp only [hd, Bool.not_true, Bool.not_false, Bool.and_true, Bool.and_false, Bool.true_and, Bool.false_and] at hcb
       subst hcb
       simp only [xmfm_writer_put_l0, ofArgs, run_seq, run_block, run_ops, run_skip, run_exit, run_ret, thenQ_normal, thenQ_exit, thenQ_ret, blockQ_normal, blockQ_exit, blockQ_ret, retQ_ret, retQ_normal, ops_nil, ops_none, got_some, ops_wT, ops_wTn, ops_wF, ops_wFn, ops_wU, dops_wT, dops_wTn, dops_wF, dops_wFn, dops_wU, run_condT, run_condF, alt2_int, altB_bool, altI_int, altBB_bool, v_min, v_max, v_not, v_neg, optEv_none, optEv_some, isSome'_none, isSome'_some, pExt0, pExt1, pExt2, Bool.false_and, Bool.true_and, Bool.not_true, Bool.not_false, cond_true, cond_false, dops_nil, dops_none, xval_call, v_mov, v_bin, v_len, v_ext, v_idxA, v_ld, v_st, v_app, v_appN, v_cvs, v_bs1, pBs1, v_slc, v_conv, v_fld, v_fldA, v_new, v_box, v_mks, v_copy, v_isnil, v_nilck, v_pick, ev, evs_nil, evs_cons, fr_get_cons, fr_put_nil, fr_put_cons, fr_put_some, fr_put_none, fr_keep_nil, fr_keep_cons, fr_has_nil, fr_has_cons, Option.bind_some, Option.map_some, xbin, ibin, xresult_eq, xress_nil, xress_tmp, resV, ex_some, if_true, if_false, ite_true, ite_false, reduceIte, reduceCtorEq, Nat.reduceEqDiff, Nat.reduceLT, Nat.reduceLeDiff, Int.reduceLT, Int.reduceLE, Nat.zero_add, Nat.reduceAdd, Bool.false_eq_true, decide_eq_true_eq, decide_eq_false_iff_not, true_implies, false_implies, and_true, true_and, hlt, decide_true, w1, c2, t1, t2, t3, t4, pNil_ptr, pFldA_ptr, e1, e5]
       refine done fun v H1 hg1 => ?_
       refine hg1.mono ?_
       rintro v2 H2 ⟨vl2, g, h1, h2⟩
       have e9 := fun x : Bool => st3_2 (c' := .bool x) h1 rfl rfl
       simp only [ofArgs, run_seq, run_block, run_ops, run_skip, run_exit, run_ret, thenQ_normal, thenQ_exit, thenQ_ret, blockQ_normal, blockQ_exit, blockQ_ret, retQ_ret, retQ_normal, ops_nil, ops_none, got_some, ops_wT, ops_wTn, ops_wF, ops_wFn, ops_wU, dops_wT, dops_wTn, dops_wF, dops_wFn, dops_wU, run_condT, run_condF, alt2_int, altB_bool, altI_int, altBB_bool, v_min, v_max, v_not, v_neg, optEv_none, optEv_some, isSome'_none, isSome'_some, pExt0, pExt1, pExt2, Bool.false_and, Bool.true_and, Bool.not_true, Bool.not_false, cond_true, cond_false, dops_nil, dops_none, xval_call, v_mov, v_bin, v_len, v_ext, v_idxA, v_ld, v_st, v_app, v_appN, v_cvs, v_bs1, pBs1, v_slc, v_conv, v_fld, v_fldA, v_new, v_box, v_mks, v_copy, v_isnil, v_nilck, v_pick, ev, evs_nil, evs_cons, fr_get_cons, fr_put_nil, fr_put_cons, fr_put_some, fr_put_none, fr_keep_nil, fr_keep_cons, fr_has_nil, fr_has_cons, Option.bind_some, Option.map_some, xbin, ibin, xresult_eq, xress_nil, xress_tmp, resV, ex_some, if_true, if_false, ite_true, ite_false, reduceIte, reduceCtorEq, Nat.reduceEqDiff, Nat.reduceLT, Nat.reduceLeDiff, Int.reduceLT, Int.reduceLE, Nat.zero_add, Nat.reduceAdd, Bool.false_eq_true, decide_eq_true_eq, decide_eq_false_iff_not, true_implies, false_implies, and_true, true_and, pNil_ptr, pFldA_ptr, e9, w4]
       exact h2)
theorem put_wE (n0 E : Nat) (H : AH) (W : Nat) (q : List Bool) (last : Bool) (c : Nat) (hc : c < 256) (mark : Bool) (Q : Value → AH → Prop) (hw : WrE n0 E H W q last) (hl : q.length ≤ 90000) (hq : ∀ H', WrE n0 E H' W (q ++ msym c mark 8 last) (c.testBit 0) → KeepE n0 E W H H' → Q (.tuple #[]) H') :
    Got (xc Try.prog tab 76 [.pointer (some ⟨W, 0, none⟩), .int .u8 c, .bool mark] H) Q := by
  refine got_call (res := []) rfl ?_
  simp only [ofArgs, run_seq, run_block, run_ops, run_skip, run_exit, run_ret, thenQ_normal, thenQ_exit, thenQ_ret, blockQ_normal, blockQ_exit, blockQ_ret, retQ_ret, retQ_normal, ops_nil, ops_none, got_some, ops_wT, ops_wTn, ops_wF, ops_wFn, ops_wU, dops_wT, dops_wTn, dops_wF, dops_wFn, dops_wU, run_condT, run_condF, alt2_int, altB_bool, altI_int, altBB_bool, v_min, v_max, v_not, v_neg, optEv_none, optEv_some, isSome'_none, isSome'_some, pExt0, pExt1, pExt2, Bool.false_and, Bool.true_and, Bool.not_true, Bool.not_false, cond_true, cond_false, dops_nil, dops_none, xval_call, v_mov, v_bin, v_len, v_ext, v_idxA, v_ld, v_st, v_app, v_appN, v_cvs, v_bs1, pBs1, v_slc, v_conv, v_fld, v_fldA, v_new, v_box, v_mks, v_copy, v_isnil, v_nilck, v_pick, ev, evs_nil, evs_cons, fr_get_cons, fr_put_nil, fr_put_cons, fr_put_some, fr_put_none, fr_keep_nil, fr_keep_cons, fr_has_nil, fr_has_cons, Option.bind_some, Option.map_some, xbin, ibin, xresult_eq, xress_nil, xress_tmp, resV, ex_some, if_true, if_false, ite_true, ite_false, reduceIte, reduceCtorEq, Nat.reduceEqDiff, Nat.reduceLT, Nat.reduceLeDiff, Int.reduceLT, Int.reduceLE, Nat.zero_add, Nat.reduceAdd, Bool.false_eq_true, decide_eq_true_eq, decide_eq_false_iff_not, true_implies, false_implies, and_true, true_and]
  refine put_l0E n0 E W c hc mark 8 q last H 0 _ hw (by omega) (by omega) (by omega) ?_
  intro H' w' k'
  simp only [ofArgs, run_seq, run_block, run_ops, run_skip, run_exit, run_ret, thenQ_normal, thenQ_exit, thenQ_ret, blockQ_normal, blockQ_exit, blockQ_ret, retQ_ret, retQ_normal, ops_nil, ops_none, got_some, ops_wT, ops_wTn, ops_wF, ops_wFn, ops_wU, dops_wT, dops_wTn, dops_wF, dops_wFn, dops_wU, run_condT, run_condF, alt2_int, altB_bool, altI_int, altBB_bool, v_min, v_max, v_not, v_neg, optEv_none, optEv_some, isSome'_none, isSome'_some, pExt0, pExt1, pExt2, Bool.false_and, Bool.true_and, Bool.not_true, Bool.not_false, cond_true, cond_false, dops_nil, dops_none, xval_call, v_mov, v_bin, v_len, v_ext, v_idxA, v_ld, v_st, v_app, v_appN, v_cvs, v_bs1, pBs1, v_slc, v_conv, v_fld, v_fldA, v_new, v_box, v_mks, v_copy, v_isnil, v_nilck, v_pick, ev, evs_nil, evs_cons, fr_get_cons, fr_put_nil, fr_put_cons, fr_put_some, fr_put_none, fr_keep_nil, fr_keep_cons, fr_has_nil, fr_has_cons, Option.bind_some, Option.map_some, xbin, ibin, xresult_eq, xress_nil, xress_tmp, resV, ex_some, if_true, if_false, ite_true, ite_false, reduceIte, reduceCtorEq, Nat.reduceEqDiff, Nat.reduceLT, Nat.reduceLeDiff, Int.reduceLT, Int.reduceLE, Nat.zero_add, Nat.reduceAdd, Bool.false_eq_true, decide_eq_true_eq, decide_eq_false_iff_not, true_implies, false_implies, and_true, true_and]
  exact hq H' (by simpa using w') k'
end Go.Proofs.Ytejedmocjdcdgaa.D

set_option linter.unusedSimpArgs false
set_option linter.unusedVariables false
namespace Go.Proofs.Ytejedmocjdcdgaa.D
open Go Go.Det

/-! ### lists of parts that are read only -/
abbrev T3 := Bool × List Int × Value
def strip (p : T3) : Pt := (p.1, p.2.1)
def prc : List T3 → List Value
  | [] => []
  | p :: r => .bool p.1 :: p.2.2 :: prc r
theorem prc_app (l r : List T3) : prc (l ++ r) = prc l ++ prc r := by
  induction l with
  | nil => rfl
  | cons p l ih => simp [prc, ih]
theorem prc_len (l : List T3) : (prc l).length = l.length * 2 := by
  induction l with
  | nil => rfl
  | cons p l ih => simp [prc, ih]; omega
def RP (H : AH) (v : Value) (l : List T3) : Prop := Sl H 2 v l.length (prc l) ∧ ∀ p ∈ l, Byts H p.2.2 p.2.1
theorem RP.ext {H H' : AH} {v : Value} {l : List T3} (h : RP H v l) (x : HExt H H') : RP H' v l := ⟨Sl.ext x h.1, fun p hp => Sl.ext x (h.2 p hp)⟩
theorem RP.keep {n0 : Nat} {H H' : AH} {v : Value} {l : List T3} (h : RP H v l) (k : Keep n0 H H') (hv : ∀ b, inB v b → b < n0) (hp : ∀ p ∈ l, ∀ b, inB p.2.2 b → b < n0) : RP H' v l := ⟨Sl.keep k h.1 hv, fun p h' => Sl.keep k (h.2 p h') (hp p h')⟩
theorem rp_idx {H : AH} {v : Value} {pre rest : List T3} {p : T3} (h : RP H v (pre ++ p :: rest)) (kd : IntKind) (i : Int) (hi : i = (pre.length : Int)) : pIdx 2 v (.int kd i) H = some (ptrAt v (pre.length * 2), H) := pIdx_ok h.1 kd i pre.length hi (by simp)
theorem rp_ld {H : AH} {v : Value} {pre rest : List T3} {p : T3} (h : RP H v (pre ++ p :: rest)) : pLd (some 2) (ptrAt v (pre.length * 2)) H = some (.agg #[.bool p.1, p.2.2], H) := by
  rw [sl_ldn h.1 (by simp), prc_app, List.drop_left' (prc_len pre)]
  rfl
/-- a part in a box of its own -/
def b2 (H : AH) (m : Bool) (w : Value) : AH := (H.push ⟨[.bool false, .slice none 0 0], 1, false, false⟩).set H.n ⟨[.bool m, w], 1, false, false⟩
theorem b2_ext (H : AH) (m : Bool) (w : Value) : HExt H (b2 H m w) := box_ext _ _ _
theorem b2_n (H : AH) (m : Bool) (w : Value) : (b2 H m w).n = H.n + 1 := rfl
theorem b2_get (H : AH) (m : Bool) (w : Value) : (b2 H m w).get H.n = some ⟨[.bool m, w], 1, false, false⟩ := box_get _ _ _
theorem b2_st (H : AH) (m : Bool) (w : Value) (hw : one w = true) : pSt 2 (.pointer (some ⟨H.n, 0, none⟩)) (.agg #[.bool m, w]) (H.push ⟨[.bool false, .slice none 0 0], 1, false, false⟩) = some (undef, b2 H m w) :=
  bx2_st (by rw [AH.get_push, if_pos rfl]) rfl hw

def szT (l : List T3) : Nat := szP (l.map strip)
theorem szT_cons (p : T3) (l : List T3) : szT (p :: l) = (p.2.1.length + (if p.1 then 1 else 0)) + szT l := szP_cons (strip p) (l.map strip)
theorem size_l0P (v : Value) (rest : List T3) : ∀ (pre : List T3) (acc : Nat) (H : AH) (i N : Int) (Q : XExit → Fr → AH → Prop), RP H v (pre ++ rest) → acc + szT rest ≤ 2400 → pre.length + rest.length ≤ 100000 → i = (pre.length : Int) → N = ((pre ++ rest).length : Int) →
    (∀ H', HExt H H' → Q (.exit 0) [(3, .int .i64 ((acc + szT rest : Nat) : Int)), (6, v), (7, .int .i64 N), (8, .int .i64 N), (9, .bool false)] H') →
    Run Try.prog tab (.loop xmfm_size_l0) [(3, .int .i64 (acc : Int)), (6, v), (7, .int .i64 N), (8, .int .i64 i)] H Q := by
  induction rest with
  | nil =>
    intro pre acc H i N Q hr ha hl hi hN hq
    rw [run_loop]
    generalize hL : XCode.loop xmfm_size_l0 = L
    have hiN : i = N := by simp at hN; omega
    subst hiN
    have hf : ¬ i < i := by omega
    simp only [xmfm_size_l0, ofArgs, run_seq, run_block, run_ops, run_skip, run_exit, run_ret, thenQ_normal, thenQ_exit, thenQ_ret, blockQ_normal, blockQ_exit, blockQ_ret, retQ_ret, retQ_normal, ops_nil, ops_none, got_some, ops_wT, ops_wTn, ops_wF, ops_wFn, ops_wU, dops_wT, dops_wTn, dops_wF, dops_wFn, dops_wU, run_condT, run_condF, alt2_int, altB_bool, altI_int, altBB_bool, v_min, v_max, v_not, v_neg, optEv_none, optEv_some, isSome'_none, isSome'_some, pExt0, pExt1, pExt2, Bool.false_and, Bool.true_and, Bool.not_true, Bool.not_false, cond_true, cond_false, dops_nil, dops_none, xval_call, v_mov, v_bin, v_len, v_ext, v_idxA, v_ld, v_st, v_app, v_appN, v_cvs, v_bs1, pBs1, v_slc, v_conv, v_fld, v_fldA, v_new, v_box, v_mks, v_copy, v_isnil, v_nilck, v_pick, ev, evs_nil, evs_cons, fr_get_cons, fr_put_nil, fr_put_cons, fr_put_some, fr_put_none, fr_keep_nil, fr_keep_cons, fr_has_nil, fr_has_cons, Option.bind_some, Option.map_some, xbin, ibin, xresult_eq, xress_nil, xress_tmp, resV, ex_some, if_true, if_false, ite_true, ite_false, reduceIte, reduceCtorEq, Nat.reduceEqDiff, Nat.reduceLT, Nat.reduceLeDiff, Int.reduceLT, Int.reduceLE, Nat.zero_add, Nat.reduceAdd, Bool.false_eq_true, decide_eq_true_eq, decide_eq_false_iff_not, true_implies, false_implies, and_true, true_and, hf, decide_false]
    exact hq H (HExt.refl H)
  | cons p rest ih =>
    intro pre acc H i N Q hr ha hl hi hN hq
    rw [run_loop]
    generalize hL : XCode.loop xmfm_size_l0 = L
    simp only [List.length_cons] at hl
    rw [szT_cons] at ha hq
    obtain ⟨m, bs, w⟩ := p
    have hlt : i < N := by simp at hN; omega
    have e1 := rp_idx hr .i64 i hi
    have e2 := rp_ld hr
    have hb := hr.2 (m, bs, w) (by simp)
    obtain ⟨o1, o2⟩ := slice_one hb
    have st := b2_st H m w o1
    have hx := b2_ext H m w
    have g2 := b2_get H m w
    have e4 := bx2_0 g2
    have e5 := bx2_1 g2
    have e6 := byts_len' (Sl.ext hx hb : Byts _ w bs)
    have w3 := wrI (i + 1) (by omega) (by omega)
    have nn := b2_n H m w
    have w1 : IntKind.i64.wrap ((acc : Int) + (bs.length : Int)) = ((acc + bs.length : Nat) : Int) := by rw [wrI _ (by simp only at ha; omega) (by simp only at ha; omega)]; omega
    have hr' : RP (b2 H m w) v ((pre ++ [(m, bs, w)]) ++ rest) := by rw [← List.append_cons]; exact hr.ext hx
    cases m
    · simp only [Bool.false_eq_true, if_false, Nat.add_zero] at ha hq
      have c1 : ¬ (((acc + bs.length : Nat) : Int) > 2400) := by omega
      simp only [xmfm_size_l0, ofArgs, run_seq, run_block, run_ops, run_skip, run_exit, run_ret, thenQ_normal, thenQ_exit, thenQ_ret, blockQ_normal, blockQ_exit, blockQ_ret, retQ_ret, retQ_normal, ops_nil, ops_none, got_some, ops_wT, ops_wTn, ops_wF, ops_wFn, ops_wU, dops_wT, dops_wTn, dops_wF, dops_wFn, dops_wU, run_condT, run_condF, alt2_int, altB_bool, altI_int, altBB_bool, v_min, v_max, v_not, v_neg, optEv_none, optEv_some, isSome'_none, isSome'_some, pExt0, pExt1, pExt2, Bool.false_and, Bool.true_and, Bool.not_true, Bool.not_false, cond_true, cond_false, dops_nil, dops_none, xval_call, v_mov, v_bin, v_len, v_ext, v_idxA, v_ld, v_st, v_app, v_appN, v_cvs, v_bs1, pBs1, v_slc, v_conv, v_fld, v_fldA, v_new, v_box, v_mks, v_copy, v_isnil, v_nilck, v_pick, ev, evs_nil, evs_cons, fr_get_cons, fr_put_nil, fr_put_cons, fr_put_some, fr_put_none, fr_keep_nil, fr_keep_cons, fr_has_nil, fr_has_cons, Option.bind_some, Option.map_some, xbin, ibin, xresult_eq, xress_nil, xress_tmp, resV, ex_some, if_true, if_false, ite_true, ite_false, reduceIte, reduceCtorEq, Nat.reduceEqDiff, Nat.reduceLT, Nat.reduceLeDiff, Int.reduceLT, Int.reduceLE, Nat.zero_add, Nat.reduceAdd, Bool.false_eq_true, decide_eq_true_eq, decide_eq_false_iff_not, true_implies, false_implies, and_true, true_and, hlt, decide_true, decide_false, e1, e2, st, fldA0, fldA1, e4, e5, e6, w1, c1, w3]
      subst hL
      refine ih (pre ++ [(false, bs, w)]) (acc + bs.length) _ (i + 1) N Q hr' (by omega) (by simp; omega) (by simp; omega) (by simpa using hN) ?_
      intro H2 x2
      have := hq H2 (hx.trans x2)
      rwa [← Nat.add_assoc] at this
    · simp only [if_true] at ha hq
      have w2 : IntKind.i64.wrap (((acc + bs.length : Nat) : Int) + 1) = ((acc + (bs.length + 1) : Nat) : Int) := by rw [wrI _ (by omega) (by omega)]; omega
      have c1 : ¬ (((acc + (bs.length + 1) : Nat) : Int) > 2400) := by omega
      simp only [xmfm_size_l0, ofArgs, run_seq, run_block, run_ops, run_skip, run_exit, run_ret, thenQ_normal, thenQ_exit, thenQ_ret, blockQ_normal, blockQ_exit, blockQ_ret, retQ_ret, retQ_normal, ops_nil, ops_none, got_some, ops_wT, ops_wTn, ops_wF, ops_wFn, ops_wU, dops_wT, dops_wTn, dops_wF, dops_wFn, dops_wU, run_condT, run_condF, alt2_int, altB_bool, altI_int, altBB_bool, v_min, v_max, v_not, v_neg, optEv_none, optEv_some, isSome'_none, isSome'_some, pExt0, pExt1, pExt2, Bool.false_and, Bool.true_and, Bool.not_true, Bool.not_false, cond_true, cond_false, dops_nil, dops_none, xval_call, v_mov, v_bin, v_len, v_ext, v_idxA, v_ld, v_st, v_app, v_appN, v_cvs, v_bs1, pBs1, v_slc, v_conv, v_fld, v_fldA, v_new, v_box, v_mks, v_copy, v_isnil, v_nilck, v_pick, ev, evs_nil, evs_cons, fr_get_cons, fr_put_nil, fr_put_cons, fr_put_some, fr_put_none, fr_keep_nil, fr_keep_cons, fr_has_nil, fr_has_cons, Option.bind_some, Option.map_some, xbin, ibin, xresult_eq, xress_nil, xress_tmp, resV, ex_some, if_true, if_false, ite_true, ite_false, reduceIte, reduceCtorEq, Nat.reduceEqDiff, Nat.reduceLT, Nat.reduceLeDiff, Int.reduceLT, Int.reduceLE, Nat.zero_add, Nat.reduceAdd, Bool.false_eq_true, decide_eq_true_eq, decide_eq_false_iff_not, true_implies, false_implies, and_true, true_and, hlt, decide_true, decide_false, e1, e2, st, fldA0, fldA1, e4, e5, e6, w1, w2, c1, w3]
      subst hL
      refine ih (pre ++ [(true, bs, w)]) (acc + (bs.length + 1)) _ (i + 1) N Q hr' (by omega) (by simp; omega) (by simp; omega) (by simpa using hN) ?_
      intro H2 x2
      have := hq H2 (hx.trans x2)
      rwa [← Nat.add_assoc] at this
theorem sizeP_ok (v : Value) (l : List T3) (H : AH) (Q : Value → AH → Prop) (hr : RP H v l) (ha : szT l ≤ 2400) (hl : l.length ≤ 100000) (hq : ∀ H', HExt H H' → Q (.int .i64 ((szT l : Nat) : Int)) H') : Got (xc Try.prog tab 75 [v] H) Q := by
  refine got_call (res := [.tmp 2]) rfl ?_
  have e0 := pLen_ok hr.1
  simp only [ofArgs, run_seq, run_block, run_ops, run_skip, run_exit, run_ret, thenQ_normal, thenQ_exit, thenQ_ret, blockQ_normal, blockQ_exit, blockQ_ret, retQ_ret, retQ_normal, ops_nil, ops_none, got_some, ops_wT, ops_wTn, ops_wF, ops_wFn, ops_wU, dops_wT, dops_wTn, dops_wF, dops_wFn, dops_wU, run_condT, run_condF, alt2_int, altB_bool, altI_int, altBB_bool, v_min, v_max, v_not, v_neg, optEv_none, optEv_some, isSome'_none, isSome'_some, pExt0, pExt1, pExt2, Bool.false_and, Bool.true_and, Bool.not_true, Bool.not_false, cond_true, cond_false, dops_nil, dops_none, xval_call, v_mov, v_bin, v_len, v_ext, v_idxA, v_ld, v_st, v_app, v_appN, v_cvs, v_bs1, pBs1, v_slc, v_conv, v_fld, v_fldA, v_new, v_box, v_mks, v_copy, v_isnil, v_nilck, v_pick, ev, evs_nil, evs_cons, fr_get_cons, fr_put_nil, fr_put_cons, fr_put_some, fr_put_none, fr_keep_nil, fr_keep_cons, fr_has_nil, fr_has_cons, Option.bind_some, Option.map_some, xbin, ibin, xresult_eq, xress_nil, xress_tmp, resV, ex_some, if_true, if_false, ite_true, ite_false, reduceIte, reduceCtorEq, Nat.reduceEqDiff, Nat.reduceLT, Nat.reduceLeDiff, Int.reduceLT, Int.reduceLE, Nat.zero_add, Nat.reduceAdd, Bool.false_eq_true, decide_eq_true_eq, decide_eq_false_iff_not, true_implies, false_implies, and_true, true_and, e0]
  refine size_l0P v l [] 0 H _ _ _ (by simpa using hr) (by omega) (by simpa using hl) (by simp) (by simp) ?_
  intro H' x
  simp only [ofArgs, run_seq, run_block, run_ops, run_skip, run_exit, run_ret, thenQ_normal, thenQ_exit, thenQ_ret, blockQ_normal, blockQ_exit, blockQ_ret, retQ_ret, retQ_normal, ops_nil, ops_none, got_some, ops_wT, ops_wTn, ops_wF, ops_wFn, ops_wU, dops_wT, dops_wTn, dops_wF, dops_wFn, dops_wU, run_condT, run_condF, alt2_int, altB_bool, altI_int, altBB_bool, v_min, v_max, v_not, v_neg, optEv_none, optEv_some, isSome'_none, isSome'_some, pExt0, pExt1, pExt2, Bool.false_and, Bool.true_and, Bool.not_true, Bool.not_false, cond_true, cond_false, dops_nil, dops_none, xval_call, v_mov, v_bin, v_len, v_ext, v_idxA, v_ld, v_st, v_app, v_appN, v_cvs, v_bs1, pBs1, v_slc, v_conv, v_fld, v_fldA, v_new, v_box, v_mks, v_copy, v_isnil, v_nilck, v_pick, ev, evs_nil, evs_cons, fr_get_cons, fr_put_nil, fr_put_cons, fr_put_some, fr_put_none, fr_keep_nil, fr_keep_cons, fr_has_nil, fr_has_cons, Option.bind_some, Option.map_some, xbin, ibin, xresult_eq, xress_nil, xress_tmp, resV, ex_some, if_true, if_false, ite_true, ite_false, reduceIte, reduceCtorEq, Nat.reduceEqDiff, Nat.reduceLT, Nat.reduceLeDiff, Int.reduceLT, Int.reduceLE, Nat.zero_add, Nat.reduceAdd, Bool.false_eq_true, decide_eq_true_eq, decide_eq_false_iff_not, true_implies, false_implies, and_true, true_and]
  have := hq H' x
  simpa using this

/-! ### parts are written -/
set_option maxHeartbeats 2000000 in
theorem wp_l1P (n0 W : Nat) (vp : Value) (cell : Int) (hvp : ∀ b, inB vp b → b < W) (rest : List T3) : ∀ (pre : List T3) (q : List Bool) (last : Bool) (H : AH) (i N : Int) (Q : XExit → Fr → AH → Prop), Wr n0 H W q last → RP H vp (pre ++ rest) → (∀ p ∈ pre ++ rest, ∀ b, inB p.2.2 b → b < W) → (∀ p ∈ rest, B8 p.2.1) → q.length + 16 * szT rest ≤ 80000 → szT rest ≤ 2400 → pre.length + rest.length ≤ 10000 → i = (pre.length : Int) → N = ((pre ++ rest).length : Int) →
    (∀ H', Wr n0 H' W (q ++ isym (itemsL (rest.map strip)) last) (ilast (itemsL (rest.map strip)) last) → KeepB n0 W H H' → Q (.exit 0) [(1, .int .i64 cell), (6, .pointer (some ⟨W, 0, none⟩)), (16, vp), (17, .int .i64 N), (18, .int .i64 N), (19, .bool false)] H') →
    Run Try.prog tab (.loop xmfm_WriteParts_l1) [(1, .int .i64 cell), (6, .pointer (some ⟨W, 0, none⟩)), (16, vp), (17, .int .i64 N), (18, .int .i64 i)] H Q := by
  induction rest with
  | nil =>
    intro pre q last H i N Q hw hr hpw h8 hl hsz hl2 hi hN hq
    rw [run_loop]
    generalize hL : XCode.loop xmfm_WriteParts_l1 = L
    have hiN : i = N := by simp at hN; omega
    subst hiN
    have hf : ¬ i < i := by omega
    simp only [xmfm_WriteParts_l1, ofArgs, run_seq, run_block, run_ops, run_skip, run_exit, run_ret, thenQ_normal, thenQ_exit, thenQ_ret, blockQ_normal, blockQ_exit, blockQ_ret, retQ_ret, retQ_normal, ops_nil, ops_none, got_some, ops_wT, ops_wTn, ops_wF, ops_wFn, ops_wU, dops_wT, dops_wTn, dops_wF, dops_wFn, dops_wU, run_condT, run_condF, alt2_int, altB_bool, altI_int, altBB_bool, v_min, v_max, v_not, v_neg, optEv_none, optEv_some, isSome'_none, isSome'_some, pExt0, pExt1, pExt2, Bool.false_and, Bool.true_and, Bool.not_true, Bool.not_false, cond_true, cond_false, dops_nil, dops_none, xval_call, v_mov, v_bin, v_len, v_ext, v_idxA, v_ld, v_st, v_app, v_appN, v_cvs, v_bs1, pBs1, v_slc, v_conv, v_fld, v_fldA, v_new, v_box, v_mks, v_copy, v_isnil, v_nilck, v_pick, ev, evs_nil, evs_cons, fr_get_cons, fr_put_nil, fr_put_cons, fr_put_some, fr_put_none, fr_keep_nil, fr_keep_cons, fr_has_nil, fr_has_cons, Option.bind_some, Option.map_some, xbin, ibin, xresult_eq, xress_nil, xress_tmp, resV, ex_some, if_true, if_false, ite_true, ite_false, reduceIte, reduceCtorEq, Nat.reduceEqDiff, Nat.reduceLT, Nat.reduceLeDiff, Int.reduceLT, Int.reduceLE, Nat.zero_add, Nat.reduceAdd, Bool.false_eq_true, decide_eq_true_eq, decide_eq_false_iff_not, true_implies, false_implies, and_true, true_and, hf, decide_false]
    exact hq H (by simpa [isym, ilast, itemsL] using hw) (.refl _ _ _)
  | cons p rest ih =>
    intro pre q last H i N Q hw hr hpw h8 hl hsz hl2 hi hN hq
    rw [run_loop]
    generalize hL : XCode.loop xmfm_WriteParts_l1 = L
    simp only [List.length_cons] at hl2
    rw [szT_cons] at hl hsz
    obtain ⟨m, bs, w⟩ := p
    have hlt : i < N := by simp at hN; omega
    have e1 := rp_idx hr .i64 i hi
    have e2 := rp_ld hr
    have hb := hr.2 (m, bs, w) (by simp)
    have hwb : ∀ b, inB w b → b < W := hpw (m, bs, w) (by simp)
    obtain ⟨o1, o2⟩ := slice_one hb
    have st := b2_st H m w o1
    have hx := b2_ext H m w
    have g2 := b2_get H m w
    have e4 := bx2_0 g2
    have e5 := bx2_1 g2
    have nn := b2_n H m w
    have w3 := wrI (i + 1) (by omega) (by omega)
    have hb2 : Byts (b2 H m w) w bs := Sl.ext hx hb
    have e6 := byts_len' hb2
    have h8p := h8 (m, bs, w) (by simp)
    have hbl : bs.length ≤ 2400 := by simp only at hsz; omega
    have hW := hw.1
    have hWn := hw.2.1
    -- after the bytes
    have fin : ∀ H4 q' last', Wr n0 H4 W q' last' → KeepB n0 W (b2 H m w) H4 → q' = q ++ isym (items (m, bs)) last → last' = ilast (items (m, bs)) last →
        Run Try.prog tab L [(1, .int .i64 cell), (6, .pointer (some ⟨W, 0, none⟩)), (16, vp), (17, .int .i64 N), (18, .int .i64 (i + 1))] H4 Q := by
      intro H4 q' last' w4 k4 hq' hl'
      subst hq' hl'
      subst hL
      have kk : Keep W H H4 := Keep.trans (HExt.keep hx (by omega)) (k4.keep (Nat.le_refl _) (by omega))
      have hr' : RP H4 vp ((pre ++ [(m, bs, w)]) ++ rest) := by rw [← List.append_cons]; exact hr.keep kk hvp hpw
      have hil : (isym (items (m, bs)) last).length = 16 * (bs.length + (if m then 1 else 0)) := by
        rw [isym_len]; unfold items byI; cases m <;> simp <;> omega
      refine ih (pre ++ [(m, bs, w)]) _ _ H4 (i + 1) N Q w4 hr' (by rw [← List.append_cons]; exact hpw) (fun p hp => h8 p (by simp [hp])) (by rw [List.length_append, hil]; simp only at hl; omega) (by omega) (by simp; omega) (by simp; omega) (by simpa using hN) ?_
      intro H5 w5 k5
      refine hq H5 ?_ (KeepB.trans ⟨hx.1, fun b hb _ => hx.2 b (by omega)⟩ (k4.trans k5))
      have ei : itemsL (((m, bs, w) :: rest).map strip) = items (m, bs) ++ itemsL (rest.map strip) := rfl
      rw [ei, isym_app, ilast_app, ← List.append_assoc]
      exact w5
    cases m
    · have hw2 : Wr n0 (b2 H false w) W q last := by
        obtain ⟨a1, a2, vl, a3, a4⟩ := hw
        exact ⟨a1, by omega, vl, (hx.2 W (by omega)).trans a3, Own.ext hx a4⟩
      simp only [xmfm_WriteParts_l1, ofArgs, run_seq, run_block, run_ops, run_skip, run_exit, run_ret, thenQ_normal, thenQ_exit, thenQ_ret, blockQ_normal, blockQ_exit, blockQ_ret, retQ_ret, retQ_normal, ops_nil, ops_none, got_some, ops_wT, ops_wTn, ops_wF, ops_wFn, ops_wU, dops_wT, dops_wTn, dops_wF, dops_wFn, dops_wU, run_condT, run_condF, alt2_int, altB_bool, altI_int, altBB_bool, v_min, v_max, v_not, v_neg, optEv_none, optEv_some, isSome'_none, isSome'_some, pExt0, pExt1, pExt2, Bool.false_and, Bool.true_and, Bool.not_true, Bool.not_false, cond_true, cond_false, dops_nil, dops_none, xval_call, v_mov, v_bin, v_len, v_ext, v_idxA, v_ld, v_st, v_app, v_appN, v_cvs, v_bs1, pBs1, v_slc, v_conv, v_fld, v_fldA, v_new, v_box, v_mks, v_copy, v_isnil, v_nilck, v_pick, ev, evs_nil, evs_cons, fr_get_cons, fr_put_nil, fr_put_cons, fr_put_some, fr_put_none, fr_keep_nil, fr_keep_cons, fr_has_nil, fr_has_cons, Option.bind_some, Option.map_some, xbin, ibin, xresult_eq, xress_nil, xress_tmp, resV, ex_some, if_true, if_false, ite_true, ite_false, reduceIte, reduceCtorEq, Nat.reduceEqDiff, Nat.reduceLT, Nat.reduceLeDiff, Int.reduceLT, Int.reduceLE, Nat.zero_add, Nat.reduceAdd, Bool.false_eq_true, decide_eq_true_eq, decide_eq_false_iff_not, true_implies, false_implies, and_true, true_and, hlt, decide_true, e1, e2, st, fldA0, fldA1, e4, e5, e6]
      refine wp_l0 n0 W w vp cell N i hwb bs [] q last _ 0 _ _ hw2 hb2 h8p (by simp only at hl; omega) (by simp; omega) (by simp) (by simp) ?_
      intro H4 w4 k4
      simp only [ofArgs, run_seq, run_block, run_ops, run_skip, run_exit, run_ret, thenQ_normal, thenQ_exit, thenQ_ret, blockQ_normal, blockQ_exit, blockQ_ret, retQ_ret, retQ_normal, ops_nil, ops_none, got_some, ops_wT, ops_wTn, ops_wF, ops_wFn, ops_wU, dops_wT, dops_wTn, dops_wF, dops_wFn, dops_wU, run_condT, run_condF, alt2_int, altB_bool, altI_int, altBB_bool, v_min, v_max, v_not, v_neg, optEv_none, optEv_some, isSome'_none, isSome'_some, pExt0, pExt1, pExt2, Bool.false_and, Bool.true_and, Bool.not_true, Bool.not_false, cond_true, cond_false, dops_nil, dops_none, xval_call, v_mov, v_bin, v_len, v_ext, v_idxA, v_ld, v_st, v_app, v_appN, v_cvs, v_bs1, pBs1, v_slc, v_conv, v_fld, v_fldA, v_new, v_box, v_mks, v_copy, v_isnil, v_nilck, v_pick, ev, evs_nil, evs_cons, fr_get_cons, fr_put_nil, fr_put_cons, fr_put_some, fr_put_none, fr_keep_nil, fr_keep_cons, fr_has_nil, fr_has_cons, Option.bind_some, Option.map_some, xbin, ibin, xresult_eq, xress_nil, xress_tmp, resV, ex_some, if_true, if_false, ite_true, ite_false, reduceIte, reduceCtorEq, Nat.reduceEqDiff, Nat.reduceLT, Nat.reduceLeDiff, Int.reduceLT, Int.reduceLE, Nat.zero_add, Nat.reduceAdd, Bool.false_eq_true, decide_eq_true_eq, decide_eq_false_iff_not, true_implies, false_implies, and_true, true_and, w3]
      refine fin H4 _ _ w4 k4 ?_ ?_
      · simp [items, isym_by]
      · simp [items, ilast_by]
    · have hw2 : WrE n0 H.n (b2 H true w) W q last := by
        obtain ⟨a1, a2, vl, a3, a4⟩ := hw
        exact ⟨a1, by omega, vl, (hx.2 W (by omega)).trans a3, Own.ext hx a4, by omega, by omega, fun h => by have := a4.1.lt h; omega⟩
      have w161 : ((161 : Nat) : Int) = 161 := rfl
      simp only [xmfm_WriteParts_l1, ofArgs, run_seq, run_block, run_ops, run_skip, run_exit, run_ret, thenQ_normal, thenQ_exit, thenQ_ret, blockQ_normal, blockQ_exit, blockQ_ret, retQ_ret, retQ_normal, ops_nil, ops_none, got_some, ops_wT, ops_wTn, ops_wF, ops_wFn, ops_wU, dops_wT, dops_wTn, dops_wF, dops_wFn, dops_wU, run_condT, run_condF, alt2_int, altB_bool, altI_int, altBB_bool, v_min, v_max, v_not, v_neg, optEv_none, optEv_some, isSome'_none, isSome'_some, pExt0, pExt1, pExt2, Bool.false_and, Bool.true_and, Bool.not_true, Bool.not_false, cond_true, cond_false, dops_nil, dops_none, xval_call, v_mov, v_bin, v_len, v_ext, v_idxA, v_ld, v_st, v_app, v_appN, v_cvs, v_bs1, pBs1, v_slc, v_conv, v_fld, v_fldA, v_new, v_box, v_mks, v_copy, v_isnil, v_nilck, v_pick, ev, evs_nil, evs_cons, fr_get_cons, fr_put_nil, fr_put_cons, fr_put_some, fr_put_none, fr_keep_nil, fr_keep_cons, fr_has_nil, fr_has_cons, Option.bind_some, Option.map_some, xbin, ibin, xresult_eq, xress_nil, xress_tmp, resV, ex_some, if_true, if_false, ite_true, ite_false, reduceIte, reduceCtorEq, Nat.reduceEqDiff, Nat.reduceLT, Nat.reduceLeDiff, Int.reduceLT, Int.reduceLE, Nat.zero_add, Nat.reduceAdd, Bool.false_eq_true, decide_eq_true_eq, decide_eq_false_iff_not, true_implies, false_implies, and_true, true_and, hlt, decide_true, e1, e2, st, fldA0, fldA1, e4]
      rw [← w161]
      refine put_wE n0 H.n _ W q last 161 (by omega) true _ hw2 (by omega) ?_
      intro H3 w3' k3
      have e8 := bx2_1 (k3.2.trans g2)
      have hb3 : Byts H3 w bs := Sl.same hb2 k3.1.1 fun b hbb => k3.1.2 b (by have := hwb b hbb; omega) (by have := hwb b hbb; omega)
      have e9 := byts_len' hb3
      have hw3 : Wr n0 H3 W (q ++ msym 161 true 8 last) ((161 : Nat).testBit 0) := by
        obtain ⟨a1, a2, vl, a3, a4, _⟩ := w3'
        exact ⟨a1, a2, vl, a3, a4⟩
      simp only [ofArgs, run_seq, run_block, run_ops, run_skip, run_exit, run_ret, thenQ_normal, thenQ_exit, thenQ_ret, blockQ_normal, blockQ_exit, blockQ_ret, retQ_ret, retQ_normal, ops_nil, ops_none, got_some, ops_wT, ops_wTn, ops_wF, ops_wFn, ops_wU, dops_wT, dops_wTn, dops_wF, dops_wFn, dops_wU, run_condT, run_condF, alt2_int, altB_bool, altI_int, altBB_bool, v_min, v_max, v_not, v_neg, optEv_none, optEv_some, isSome'_none, isSome'_some, pExt0, pExt1, pExt2, Bool.false_and, Bool.true_and, Bool.not_true, Bool.not_false, cond_true, cond_false, dops_nil, dops_none, xval_call, v_mov, v_bin, v_len, v_ext, v_idxA, v_ld, v_st, v_app, v_appN, v_cvs, v_bs1, pBs1, v_slc, v_conv, v_fld, v_fldA, v_new, v_box, v_mks, v_copy, v_isnil, v_nilck, v_pick, ev, evs_nil, evs_cons, fr_get_cons, fr_put_nil, fr_put_cons, fr_put_some, fr_put_none, fr_keep_nil, fr_keep_cons, fr_has_nil, fr_has_cons, Option.bind_some, Option.map_some, xbin, ibin, xresult_eq, xress_nil, xress_tmp, resV, ex_some, if_true, if_false, ite_true, ite_false, reduceIte, reduceCtorEq, Nat.reduceEqDiff, Nat.reduceLT, Nat.reduceLeDiff, Int.reduceLT, Int.reduceLE, Nat.zero_add, Nat.reduceAdd, Bool.false_eq_true, decide_eq_true_eq, decide_eq_false_iff_not, true_implies, false_implies, and_true, true_and, fldA1, e8, e9]
      refine wp_l0 n0 W w vp cell N i hwb bs [] _ _ _ 0 _ _ hw3 hb3 h8p (by simp only [if_true] at hl; simp [msym_len]; omega) (by simp; omega) (by simp) (by simp) ?_
      intro H4 w4 k4
      simp only [ofArgs, run_seq, run_block, run_ops, run_skip, run_exit, run_ret, thenQ_normal, thenQ_exit, thenQ_ret, blockQ_normal, blockQ_exit, blockQ_ret, retQ_ret, retQ_normal, ops_nil, ops_none, got_some, ops_wT, ops_wTn, ops_wF, ops_wFn, ops_wU, dops_wT, dops_wTn, dops_wF, dops_wFn, dops_wU, run_condT, run_condF, alt2_int, altB_bool, altI_int, altBB_bool, v_min, v_max, v_not, v_neg, optEv_none, optEv_some, isSome'_none, isSome'_some, pExt0, pExt1, pExt2, Bool.false_and, Bool.true_and, Bool.not_true, Bool.not_false, cond_true, cond_false, dops_nil, dops_none, xval_call, v_mov, v_bin, v_len, v_ext, v_idxA, v_ld, v_st, v_app, v_appN, v_cvs, v_bs1, pBs1, v_slc, v_conv, v_fld, v_fldA, v_new, v_box, v_mks, v_copy, v_isnil, v_nilck, v_pick, ev, evs_nil, evs_cons, fr_get_cons, fr_put_nil, fr_put_cons, fr_put_some, fr_put_none, fr_keep_nil, fr_keep_cons, fr_has_nil, fr_has_cons, Option.bind_some, Option.map_some, xbin, ibin, xresult_eq, xress_nil, xress_tmp, resV, ex_some, if_true, if_false, ite_true, ite_false, reduceIte, reduceCtorEq, Nat.reduceEqDiff, Nat.reduceLT, Nat.reduceLeDiff, Int.reduceLT, Int.reduceLE, Nat.zero_add, Nat.reduceAdd, Bool.false_eq_true, decide_eq_true_eq, decide_eq_false_iff_not, true_implies, false_implies, and_true, true_and, w3]
      refine fin H4 _ _ w4 (k3.1.trans k4) ?_ ?_
      · simp [items, isym, isym_by]
      · simp [items, ilast, ilast_by]
set_option maxHeartbeats 2000000 in
theorem writeP_ok (l : List T3) (vp : Value) (cell : Int) (H : AH) (Q : Value → AH → Prop) (hr : RP H vp l) (h8 : ∀ p ∈ l, B8 p.2.1) (hl : l.length ≤ 1000) (hsz : szT l ≤ 2000) (hc : 2 ≤ cell) (hc2 : cell ≤ 1000)
    (hq : ∀ v H', OwnI H.n H' v (pul cell (gaps (fullI (itemsL (l.map strip)))).1) → HExt H H' → Q (.tuple [v, .int .i64 0].toArray) H') : Got (xc Try.prog tab 29 [vp, .int .i64 cell] H) Q := by
  refine got_call (res := [.tmp 4, .tmp 5]) rfl ?_
  generalize hT : ((.seq (.ops [⟨some 14, .build [.slice none 0 0, .int .i64 0, .bool false] [(2, 1, .const (.bool true))], none⟩, ⟨some 15, .box 140 1 (.tmp 14), none⟩, ⟨some 6, .mov (.tmp 15), none⟩] [0, 1, 6]) (.seq (.seq (.ops [⟨some 16, .mov (.tmp 0), none⟩, ⟨some 17, .len (.tmp 16), none⟩, ⟨some 18, .mov (.const (.int .i64 0)), none⟩] [1, 6, 16, 17, 18]) (.block 0 (.loop xmfm_WriteParts_l1))) (.seq (.ops [⟨some 38, .mov (.tmp 6), none⟩, ⟨some 39, .call 77 [.tmp 38, .const (.bool false)], none⟩] [1, 6]) (.seq (.ops [⟨some 40, .mov (.tmp 6), none⟩, ⟨some 41, .call 77 [.tmp 40, .const (.bool true)], none⟩] [1, 6]) (.seq (.ops [⟨some 42, .mov (.tmp 6), none⟩, ⟨some 43, .nilck (.tmp 42), none⟩, ⟨some 44, .fldA 0 (.tmp 43), none⟩, ⟨some 45, .ld none (.tmp 44), none⟩, ⟨some 46, .mov (.tmp 1), none⟩, ⟨some 47, .call 62 [.tmp 45, .tmp 46], none⟩, ⟨some 48, .ext (.tmp 47) 0, none⟩, ⟨some 49, .ext (.tmp 47) 1, none⟩, ⟨some 4, .mov (.tmp 48), none⟩, ⟨some 5, .mov (.tmp 49), none⟩] [4, 5]) .ret))))) : XCode) = T
  simp only [ofArgs, run_seq, run_block, run_ops, run_skip, run_exit, run_ret, thenQ_normal, thenQ_exit, thenQ_ret, blockQ_normal, blockQ_exit, blockQ_ret, retQ_ret, retQ_normal, ops_nil, ops_none, got_some, ops_wT, ops_wTn, ops_wF, ops_wFn, ops_wU, dops_wT, dops_wTn, dops_wF, dops_wFn, dops_wU, run_condT, run_condF, alt2_int, altB_bool, altI_int, altBB_bool, v_min, v_max, v_not, v_neg, optEv_none, optEv_some, isSome'_none, isSome'_some, pExt0, pExt1, pExt2, Bool.false_and, Bool.true_and, Bool.not_true, Bool.not_false, cond_true, cond_false, dops_nil, dops_none, xval_call, v_mov, v_bin, v_len, v_ext, v_idxA, v_ld, v_st, v_app, v_appN, v_cvs, v_bs1, pBs1, v_slc, v_conv, v_fld, v_fldA, v_new, v_box, v_mks, v_copy, v_isnil, v_nilck, v_pick, ev, evs_nil, evs_cons, fr_get_cons, fr_put_nil, fr_put_cons, fr_put_some, fr_put_none, fr_keep_nil, fr_keep_cons, fr_has_nil, fr_has_cons, Option.bind_some, Option.map_some, xbin, ibin, xresult_eq, xress_nil, xress_tmp, resV, ex_some, if_true, if_false, ite_true, ite_false, reduceIte, reduceCtorEq, Nat.reduceEqDiff, Nat.reduceLT, Nat.reduceLeDiff, Int.reduceLT, Int.reduceLE, Nat.zero_add, Nat.reduceAdd, Bool.false_eq_true, decide_eq_true_eq, decide_eq_false_iff_not, true_implies, false_implies, and_true, true_and]
  refine sizeP_ok vp l H _ hr (by omega) (by omega) ?_
  intro H1 x1
  have c1 : ¬ (((szT l : Nat) : Int) > 2400) := by omega
  have hbuild : ∀ (fr : Fr) (H : AH), xval Try.prog (xc Try.prog tab) ⟨some 14, .build [.slice none 0 0, .int .i64 0, .bool false] [(2, 1, .const (.bool true))], none⟩ fr H = some (.agg #[.slice none 0 0, .int .i64 0, .bool true], H) := fun _ _ => rfl
  have ev3 : vcells (.agg #[.slice none 0 0, .int .i64 0, .bool true]) = [.slice none 0 0, .int .i64 0, .bool true] := rfl
  have x2 := hext_push H1 ⟨[.slice none 0 0, .int .i64 0, .bool true], 1, false, false⟩
  have hr1 := (hr.ext x1).ext x2
  have hw : Wr (H1.n + 1) (H1.push ⟨[.slice none 0 0, .int .i64 0, .bool true], 1, false, false⟩) H1.n [] true :=
    ⟨by omega, by simp, .slice none 0 0, by rw [AH.get_push, if_pos rfl]; rfl, Own.nil _ _ _⟩
  have e0 := pLen_ok hr1.1
  have hn2 : (H1.push ⟨[.slice none 0 0, .int .i64 0, .bool true], 1, false, false⟩).n = H1.n + 1 := by simp
  subst hT
  generalize hT : ((.seq (.ops [⟨some 38, .mov (.tmp 6), none⟩, ⟨some 39, .call 77 [.tmp 38, .const (.bool false)], none⟩] [1, 6]) (.seq (.ops [⟨some 40, .mov (.tmp 6), none⟩, ⟨some 41, .call 77 [.tmp 40, .const (.bool true)], none⟩] [1, 6]) (.seq (.ops [⟨some 42, .mov (.tmp 6), none⟩, ⟨some 43, .nilck (.tmp 42), none⟩, ⟨some 44, .fldA 0 (.tmp 43), none⟩, ⟨some 45, .ld none (.tmp 44), none⟩, ⟨some 46, .mov (.tmp 1), none⟩, ⟨some 47, .call 62 [.tmp 45, .tmp 46], none⟩, ⟨some 48, .ext (.tmp 47) 0, none⟩, ⟨some 49, .ext (.tmp 47) 1, none⟩, ⟨some 4, .mov (.tmp 48), none⟩, ⟨some 5, .mov (.tmp 49), none⟩] [4, 5]) .ret))) : XCode) = T
  simp only [ofArgs, run_seq, run_block, run_ops, run_skip, run_exit, run_ret, thenQ_normal, thenQ_exit, thenQ_ret, blockQ_normal, blockQ_exit, blockQ_ret, retQ_ret, retQ_normal, ops_nil, ops_none, got_some, ops_wT, ops_wTn, ops_wF, ops_wFn, ops_wU, dops_wT, dops_wTn, dops_wF, dops_wFn, dops_wU, run_condT, run_condF, alt2_int, altB_bool, altI_int, altBB_bool, v_min, v_max, v_not, v_neg, optEv_none, optEv_some, isSome'_none, isSome'_some, pExt0, pExt1, pExt2, Bool.false_and, Bool.true_and, Bool.not_true, Bool.not_false, cond_true, cond_false, dops_nil, dops_none, xval_call, v_mov, v_bin, v_len, v_ext, v_idxA, v_ld, v_st, v_app, v_appN, v_cvs, v_bs1, pBs1, v_slc, v_conv, v_fld, v_fldA, v_new, v_box, v_mks, v_copy, v_isnil, v_nilck, v_pick, ev, evs_nil, evs_cons, fr_get_cons, fr_put_nil, fr_put_cons, fr_put_some, fr_put_none, fr_keep_nil, fr_keep_cons, fr_has_nil, fr_has_cons, Option.bind_some, Option.map_some, xbin, ibin, xresult_eq, xress_nil, xress_tmp, resV, ex_some, if_true, if_false, ite_true, ite_false, reduceIte, reduceCtorEq, Nat.reduceEqDiff, Nat.reduceLT, Nat.reduceLeDiff, Int.reduceLT, Int.reduceLE, Nat.zero_add, Nat.reduceAdd, Bool.false_eq_true, decide_eq_true_eq, decide_eq_false_iff_not, true_implies, false_implies, and_true, true_and, c1, decide_false, hbuild, ev3, e0]
  generalize (H1.push ⟨[.slice none 0 0, .int .i64 0, .bool true], 1, false, false⟩) = H2 at x2 hr1 hw e0 hn2
  have hxn := x1.1
  have hvp : ∀ b, inB vp b → b < H1.n := fun b hb => by have := Sl.lt hr.1 hb; omega
  have hpw : ∀ p ∈ l, ∀ b, inB p.2.2 b → b < H1.n := fun p hp b hb => by have := Sl.lt (hr.2 p hp) hb; omega
  have hok := items_ok (l.map strip) (fun p hp => by
    obtain ⟨x, hx, rfl⟩ := List.mem_map.1 hp
    exact h8 x hx)
  have gb := fullI_gb _ hok
  have glen := (gaps_len (fullI (itemsL (l.map strip)))).1
  rw [fullI_len] at glen
  have hsz' : (itemsL (l.map strip)).length ≤ 2000 := hsz
  refine wp_l1P (H1.n + 1) H1.n vp cell hvp l [] [] true H2 0 _ _ hw (by simpa using hr1) (by simpa using hpw) h8 (by simp; omega) (by omega) (by simp; omega) (by simp) (by simp) ?_
  intro H3 w3 k3
  simp only [List.nil_append] at w3
  subst hT
  have il := isym_len (itemsL (l.map strip)) true
  simp only [ofArgs, run_seq, run_block, run_ops, run_skip, run_exit, run_ret, thenQ_normal, thenQ_exit, thenQ_ret, blockQ_normal, blockQ_exit, blockQ_ret, retQ_ret, retQ_normal, ops_nil, ops_none, got_some, ops_wT, ops_wTn, ops_wF, ops_wFn, ops_wU, dops_wT, dops_wTn, dops_wF, dops_wFn, dops_wU, run_condT, run_condF, alt2_int, altB_bool, altI_int, altBB_bool, v_min, v_max, v_not, v_neg, optEv_none, optEv_some, isSome'_none, isSome'_some, pExt0, pExt1, pExt2, Bool.false_and, Bool.true_and, Bool.not_true, Bool.not_false, cond_true, cond_false, dops_nil, dops_none, xval_call, v_mov, v_bin, v_len, v_ext, v_idxA, v_ld, v_st, v_app, v_appN, v_cvs, v_bs1, pBs1, v_slc, v_conv, v_fld, v_fldA, v_new, v_box, v_mks, v_copy, v_isnil, v_nilck, v_pick, ev, evs_nil, evs_cons, fr_get_cons, fr_put_nil, fr_put_cons, fr_put_some, fr_put_none, fr_keep_nil, fr_keep_cons, fr_has_nil, fr_has_cons, Option.bind_some, Option.map_some, xbin, ibin, xresult_eq, xress_nil, xress_tmp, resV, ex_some, if_true, if_false, ite_true, ite_false, reduceIte, reduceCtorEq, Nat.reduceEqDiff, Nat.reduceLT, Nat.reduceLeDiff, Int.reduceLT, Int.reduceLE, Nat.zero_add, Nat.reduceAdd, Bool.false_eq_true, decide_eq_true_eq, decide_eq_false_iff_not, true_implies, false_implies, and_true, true_and]
  refine place_w (H1.n + 1) H3 H1.n _ _ false _ w3 (by omega) ?_
  intro H5 w5 k5
  refine place_w (H1.n + 1) H5 H1.n _ _ true _ w5 (by simp; omega) ?_
  intro H6 w6 k6
  have hfull : isym (itemsL (l.map strip)) true ++ [false] ++ [true] = fullI (itemsL (l.map strip)) := by simp [fullI]
  rw [hfull] at w6
  obtain ⟨_, hn6, vl, g6, o6⟩ := w6
  have e7 := ld3_0 g6
  simp only [ofArgs, run_seq, run_block, run_ops, run_skip, run_exit, run_ret, thenQ_normal, thenQ_exit, thenQ_ret, blockQ_normal, blockQ_exit, blockQ_ret, retQ_ret, retQ_normal, ops_nil, ops_none, got_some, ops_wT, ops_wTn, ops_wF, ops_wFn, ops_wU, dops_wT, dops_wTn, dops_wF, dops_wFn, dops_wU, run_condT, run_condF, alt2_int, altB_bool, altI_int, altBB_bool, v_min, v_max, v_not, v_neg, optEv_none, optEv_some, isSome'_none, isSome'_some, pExt0, pExt1, pExt2, Bool.false_and, Bool.true_and, Bool.not_true, Bool.not_false, cond_true, cond_false, dops_nil, dops_none, xval_call, v_mov, v_bin, v_len, v_ext, v_idxA, v_ld, v_st, v_app, v_appN, v_cvs, v_bs1, pBs1, v_slc, v_conv, v_fld, v_fldA, v_new, v_box, v_mks, v_copy, v_isnil, v_nilck, v_pick, ev, evs_nil, evs_cons, fr_get_cons, fr_put_nil, fr_put_cons, fr_put_some, fr_put_none, fr_keep_nil, fr_keep_cons, fr_has_nil, fr_has_cons, Option.bind_some, Option.map_some, xbin, ibin, xresult_eq, xress_nil, xress_tmp, resV, ex_some, if_true, if_false, ite_true, ite_false, reduceIte, reduceCtorEq, Nat.reduceEqDiff, Nat.reduceLT, Nat.reduceLeDiff, Int.reduceLT, Int.reduceLE, Nat.zero_add, Nat.reduceAdd, Bool.false_eq_true, decide_eq_true_eq, decide_eq_false_iff_not, true_implies, false_implies, and_true, true_and, pNil_ptr, fldA0, e7]
  refine pulses_ok _ cell vl H6 _ o6.ints (by omega) hc hc2 (fun g hg => by have := gb.1 g hg; omega) ?_
  intro v' H7 o7 x7
  have k46 := (k3.trans (k5.trans k6)).keep (m := H.n) hxn (by omega)
  simp only [ofArgs, run_seq, run_block, run_ops, run_skip, run_exit, run_ret, thenQ_normal, thenQ_exit, thenQ_ret, blockQ_normal, blockQ_exit, blockQ_ret, retQ_ret, retQ_normal, ops_nil, ops_none, got_some, ops_wT, ops_wTn, ops_wF, ops_wFn, ops_wU, dops_wT, dops_wTn, dops_wF, dops_wFn, dops_wU, run_condT, run_condF, alt2_int, altB_bool, altI_int, altBB_bool, v_min, v_max, v_not, v_neg, optEv_none, optEv_some, isSome'_none, isSome'_some, pExt0, pExt1, pExt2, Bool.false_and, Bool.true_and, Bool.not_true, Bool.not_false, cond_true, cond_false, dops_nil, dops_none, xval_call, v_mov, v_bin, v_len, v_ext, v_idxA, v_ld, v_st, v_app, v_appN, v_cvs, v_bs1, pBs1, v_slc, v_conv, v_fld, v_fldA, v_new, v_box, v_mks, v_copy, v_isnil, v_nilck, v_pick, ev, evs_nil, evs_cons, fr_get_cons, fr_put_nil, fr_put_cons, fr_put_some, fr_put_none, fr_keep_nil, fr_keep_cons, fr_has_nil, fr_has_cons, Option.bind_some, Option.map_some, xbin, ibin, xresult_eq, xress_nil, xress_tmp, resV, ex_some, if_true, if_false, ite_true, ite_false, reduceIte, reduceCtorEq, Nat.reduceEqDiff, Nat.reduceLT, Nat.reduceLeDiff, Int.reduceLT, Int.reduceLE, Nat.zero_add, Nat.reduceAdd, Bool.false_eq_true, decide_eq_true_eq, decide_eq_false_iff_not, true_implies, false_implies, and_true, true_and]
  exact hq v' H7 (o7.le (by omega)) (Keep.trans (n0 := H.n) x1 (Keep.trans (B := H2) (HExt.keep x2 hxn) (k46.trans (HExt.keep x7 (by omega)))))
end Go.Proofs.Ytejedmocjdcdgaa.D

set_option linter.unusedSimpArgs false
set_option linter.unusedVariables false
namespace Go.Proofs.Ytejedmocjdcdgaa.D
open Go Go.Det

/-! ### parts of our own, the last of which may grow -/
structure OutP (n0 : Nat) (H : AH) (vo : Value) (l : List T3) : Prop where
  own : Own n0 2 H vo l.length (prc l)
  byt : ∀ p ∈ l, OwnB n0 H p.2.2 p.2.1
  dis : ∀ p ∈ l, ∀ b, inB p.2.2 b → ¬ inB vo b
  pw : l.Pairwise fun p q => ∀ b, inB p.2.2 b → ¬ inB q.2.2 b
theorem OutP.rp {n0 : Nat} {H : AH} {vo : Value} {l : List T3} (h : OutP n0 H vo l) : RP H vo l := ⟨h.own.1, fun p hp => (h.byt p hp).1⟩
theorem OutP.nil (n0 : Nat) (H : AH) : OutP n0 H (.slice none 0 0) [] := ⟨Own.nil _ _ _, fun p hp => by simp at hp, fun p hp => by simp at hp, .nil⟩
theorem OutP.ext {n0 : Nat} {H H' : AH} {vo : Value} {l : List T3} (h : OutP n0 H vo l) (x : HExt H H') : OutP n0 H' vo l := ⟨Own.ext x h.own, fun p hp => Own.ext x (h.byt p hp), h.dis, h.pw⟩
theorem OutP.le {n0 n1 : Nat} {H : AH} {vo : Value} {l : List T3} (h : OutP n1 H vo l) (hl : n0 ≤ n1) : OutP n0 H vo l := ⟨h.own.le hl, fun p hp => (h.byt p hp).le hl, h.dis, h.pw⟩

/-- a part more -/
theorem out_push (n0 : Nat) (H : AH) (vo : Value) (l : List T3) (m : Bool) (w : Value) (bs : List Int) (h : OutP n0 H vo l) (hn : n0 ≤ H.n) (hl : l.length ≤ 1000000) (hw : OwnB n0 H w bs) (hd : ∀ b, inB w b → ¬ inB vo b) (hp : ∀ p ∈ l, ∀ b, inB p.2.2 b → ¬ inB w b) (Q : Value → AH → Prop) (hq : ∀ vo' H', OutP n0 H' vo' (l ++ [(m, bs, w)]) → Keep n0 H H' → (∀ b, b < H.n → ¬ inB vo b → H'.get b = H.get b) → Q vo' H') :
    Got (xapp (H.push ⟨[.bool m, w], 2, false, false⟩) 2 32 vo (.slice (some ⟨H.n, 0, none⟩) 1 1)) Q := by
  obtain ⟨s1, s2⟩ := slice_one hw.1
  have x1 := hext_push H ⟨[.bool m, w], 2, false, false⟩
  have hn1 : (H.push ⟨[.bool m, w], 2, false, false⟩).n = H.n + 1 := rfl
  have o1 := h.ext x1
  have hw1 : OwnB n0 (H.push ⟨[.bool m, w], 2, false, false⟩) w bs := Own.ext x1 hw
  refine xapp_own o1.own (by omega) (Sl.pushed H [.bool m, w] 2 1 false false rfl) (by simp [s1, show one (.bool m) = true from rfl]) (by omega) (by omega) (by omega) ?_
  intro vo' H' o st
  have hnw : ∀ p ∈ l, ∀ b, inB p.2.2 b → ¬ inB vo' b := fun p hp b hb hv => by
    rcases st.new b hv with h1 | h1
    · exact h.dis p hp b hb h1
    · have := (h.byt p hp).1.lt hb; omega
  have hww : ∀ b, inB w b → ¬ inB vo' b := fun b hb hv => by
    rcases st.new b hv with h1 | h1
    · exact hd b hb h1
    · have := hw.1.lt hb; omega
  refine hq vo' H' ⟨?_, ?_, ?_, ?_⟩ ?_ ?_
  · have el : (l ++ [(m, bs, w)]).length = l.length + 1 := by simp
    rw [el, prc_app]
    exact o
  · intro p hp
    rcases List.mem_append.1 hp with h1 | h1
    · exact Own.stp st (o1.byt p h1) (fun b hb hv => h.dis p h1 b hb hv)
    · simp only [List.mem_singleton] at h1
      subst h1
      exact Own.stp st hw1 (fun b hb hv => hd b hb hv)
  · intro p hp
    rcases List.mem_append.1 hp with h1 | h1
    · exact hnw p h1
    · simp only [List.mem_singleton] at h1
      subst h1
      exact hww
  · rw [List.pairwise_append]
    refine ⟨h.pw, by simp, fun p hp' q hq' => ?_⟩
    simp only [List.mem_singleton] at hq'
    subst hq'
    exact hp p hp'
  · refine Keep.trans (HExt.keep x1 hn) (st.keep o1.own (by omega))
  · intro b hb hv
    exact (st.get b (by omega) hv).trans (x1.2 b hb)
/-- the cell of the last part's bytes -/
theorem out_last {H : AH} {vo : Value} {li : List T3} {p : T3} (h : Sl H 2 vo (li ++ [p]).length (prc (li ++ [p]))) : pLd none (ptrAt vo (li.length * 2 + 1)) H = some (p.2.2, H) := by
  refine pLd_one h (li.length * 2 + 1) _ ?_
  rw [prc_app, List.getElem?_append_right (by rw [prc_len]; omega), prc_len]
  have : li.length * 2 + 1 - li.length * 2 = 1 := by omega
  rw [this]
  rfl
/-- a byte more for the last part -/
theorem out_grow (n0 : Nat) (H : AH) (vo : Value) (li : List T3) (m : Bool) (w : Value) (bs : List Int) (c : Int) (h : OutP n0 H vo (li ++ [(m, bs, w)])) (hn : n0 ≤ H.n) (hbl : bs.length ≤ 1000000) (Q : Value → AH → Prop)
    (hq : ∀ w' H', OutP n0 H' vo (li ++ [(m, bs ++ [c], w')]) → Keep n0 H H' → Q undef H') :
    Got (xapp (H.push ⟨[.int .u8 c], 1, false, false⟩) 1 1 w (.slice (some ⟨H.n, 0, none⟩) 1 1)) fun w' H1 => Got (pSt 1 (ptrAt vo (li.length * 2 + 1)) w' H1) Q := by
  have hw : OwnB n0 H w bs := h.byt (m, bs, w) (by simp)
  refine app_oneB hw hn (by omega) ?_
  intro w' H1 o1 st
  have hmem : (m, bs, w) ∈ li ++ [(m, bs, w)] := by simp
  have hpw := h.pw
  rw [List.pairwise_append] at hpw
  obtain ⟨pw1, _, pw2⟩ := hpw
  have hvo : ∀ b, inB vo b → ¬ inB w b := fun b h1 h2 => h.dis _ hmem b h2 h1
  have own1 := Own.stp st h.own hvo
  have hap := st.apart h.own hvo
  obtain ⟨s1, s2⟩ := slice_one o1.1
  refine pSt_own own1 (by rw [prc_len]; simp; omega) s1 s2 ?_
  intro H2 own2 st2
  have li1 : ∀ p ∈ li, OwnB n0 H1 p.2.2 p.2.1 := fun p hp => Own.stp st (h.byt p (by simp [hp])) (fun b h1 h2 => pw2 p hp (m, bs, w) (by simp) b h1 h2)
  have li1w : ∀ p ∈ li, ∀ b, inB p.2.2 b → ¬ inB w' b := fun p hp b h1 h2 => st.apart (h.byt p (by simp [hp])) (fun b h1 h2 => pw2 p hp (m, bs, w) (by simp) b h1 h2) b h1 h2
  refine hq w' H2 ⟨?_, ?_, ?_, ?_⟩ ((st.keep hw hn).trans (st2.keep own1 (by have := st.n; omega)))
  · have e1 : (li ++ [(m, bs ++ [c], w')]).length = (li ++ [(m, bs, w)]).length := by simp
    have e2 : prc (li ++ [(m, bs ++ [c], w')]) = (prc (li ++ [(m, bs, w)])).set (li.length * 2 + 1) w' := by
      rw [prc_app, prc_app, List.set_append_right _ _ (by rw [prc_len]; omega), prc_len]
      have : li.length * 2 + 1 - li.length * 2 = 1 := by omega
      rw [this]
      rfl
    rw [e1, e2]
    exact own2
  · intro p hp
    rcases List.mem_append.1 hp with h1 | h1
    · exact Own.stp st2 (li1 p h1) (fun b hb hv => h.dis p (by simp [h1]) b hb hv)
    · simp only [List.mem_singleton] at h1
      subst h1
      exact Own.stp st2 o1 (fun b hb hv => hap b hv hb)
  · intro p hp
    rcases List.mem_append.1 hp with h1 | h1
    · exact h.dis p (by simp [h1])
    · simp only [List.mem_singleton] at h1
      subst h1
      exact fun b hb hv => hap b hv hb
  · rw [List.pairwise_append]
    refine ⟨pw1, by simp, fun p hp q hq' => ?_⟩
    simp only [List.mem_singleton] at hq'
    subst hq'
    exact li1w p hp

set_option maxHeartbeats 8000000 in
/-- ALL BYTES AND MARKS ARE READ -/
theorem rp_l1P (n0 : Nat) (vd vc : Value) (q : List Bool) (n : Nat) (hqn : q.length = 2 * n) (hn : n ≤ 100000) (hvd : ∀ b, inB vd b → b < n0) (hvc : ∀ b, inB vc b → b < n0) (rest : List It) : ∀ (pre : List Bool) (s : Nat) (last : Bool) (l : List T3) (vo : Value) (H : AH) (Q : XExit → Fr → AH → Prop), Boos H vd (dataL (2 * n) q n) → Boos H vc (clockL (2 * n) q n) → ItOk rest → q = pre ++ (isym rest last ++ [false, true]) → pre.length = 16 * s → n = 8 * (s + rest.length) + 1 → OutP n0 H vo l → n0 ≤ H.n → l.length + rest.length ≤ 100000 → (∀ p ∈ l, p.2.1.length + rest.length ≤ 100000) →
    (∀ vo' l' H' last' j, OutP n0 H' vo' l' → l'.map strip = rest.foldl rdI (l.map strip) → Keep n0 H H' → Q (.exit 0) [(8, vd), (9, vc), (10, vo'), (11, .bool last'), (12, .int .i64 j), (40, .bool false)] H') →
    Run Try.prog tab (.loop xmfm_ReadParts_l1) [(8, vd), (9, vc), (10, vo), (11, .bool last), (12, .int .i64 ((8 * s : Nat) : Int))] H Q := by
  induction rest with
  | nil =>
    intro pre s last l vo H Q hd hc h8 hqe hpl hns ho hnn hbl hbl2 hq
    rw [run_loop]
    generalize hL : XCode.loop xmfm_ReadParts_l1 = LL
    have e1 := boos_len hd
    rw [dataL_len] at e1
    have w1 : IntKind.i64.wrap (((n : Nat) : Int) - 1) = ((n - 1 : Nat) : Int) := by rw [wrI _ (by omega) (by omega)]; omega
    have hf : ¬ ((8 * s : Nat) : Int) < ((n - 1 : Nat) : Int) := by simp at hns; omega
    simp only [xmfm_ReadParts_l1, ofArgs, run_seq, run_block, run_ops, run_skip, run_exit, run_ret, thenQ_normal, thenQ_exit, thenQ_ret, blockQ_normal, blockQ_exit, blockQ_ret, retQ_ret, retQ_normal, ops_nil, ops_none, got_some, ops_wT, ops_wTn, ops_wF, ops_wFn, ops_wU, dops_wT, dops_wTn, dops_wF, dops_wFn, dops_wU, run_condT, run_condF, alt2_int, altB_bool, altI_int, altBB_bool, v_min, v_max, v_not, v_neg, optEv_none, optEv_some, isSome'_none, isSome'_some, pExt0, pExt1, pExt2, Bool.false_and, Bool.true_and, Bool.not_true, Bool.not_false, cond_true, cond_false, dops_nil, dops_none, xval_call, v_mov, v_bin, v_len, v_ext, v_idxA, v_ld, v_st, v_app, v_appN, v_cvs, v_bs1, pBs1, v_slc, v_conv, v_fld, v_fldA, v_new, v_box, v_mks, v_copy, v_isnil, v_nilck, v_pick, ev, evs_nil, evs_cons, fr_get_cons, fr_put_nil, fr_put_cons, fr_put_some, fr_put_none, fr_keep_nil, fr_keep_cons, fr_has_nil, fr_has_cons, Option.bind_some, Option.map_some, xbin, ibin, xresult_eq, xress_nil, xress_tmp, resV, ex_some, if_true, if_false, ite_true, ite_false, reduceIte, reduceCtorEq, Nat.reduceEqDiff, Nat.reduceLT, Nat.reduceLeDiff, Int.reduceLT, Int.reduceLE, Nat.zero_add, Nat.reduceAdd, Bool.false_eq_true, decide_eq_true_eq, decide_eq_false_iff_not, true_implies, false_implies, and_true, true_and, e1, w1, hf, decide_false]
    exact hq vo l H last _ ho rfl (.refl _ _)
  | cons it rest ih =>
    intro pre s last l vo H Q hd hc h8 hqe hpl hns ho hnn hbl hbl2 hq
    simp only [List.length_cons] at hns hbl hbl2
    obtain ⟨mk, c⟩ := it
    obtain ⟨hc256, hmk⟩ := h8 (mk, c) (by simp)
    simp only at hc256 hmk
    have ih' := ih (pre ++ msym c mk 8 last) (s + 1) (c.testBit 0)
    rw [run_loop]
    generalize hL : XCode.loop xmfm_ReadParts_l1 = LL
    rw [hL] at ih'
    have e1 := boos_len hd
    rw [dataL_len] at e1
    have w1 : IntKind.i64.wrap (((n : Nat) : Int) - 1) = ((n - 1 : Nat) : Int) := by rw [wrI _ (by omega) (by omega)]; omega
    have hlt : ((8 * s : Nat) : Int) < ((n - 1 : Nat) : Int) := by omega
    have hqs : q = pre ++ (msym c mk 8 last ++ (isym rest (c.testBit 0) ++ [false, true])) := by rw [hqe]; simp [isym]
    have hdk : ∀ k, k < 8 → (dataL (2 * n) q n)[8 * s + k]? = some (c.testBit (7 - k)) := by
      intro k hk
      have h1 := (msym_get c mk 8 last k hk).1
      rw [dataL_get _ _ _ _ (by omega), hqs, List.getD_eq_getElem?_getD, List.getElem?_append_right (by omega), show 2 * (8 * s + k) + 1 - pre.length = 2 * k + 1 by omega, List.getElem?_append_left (by rw [msym_len]; omega), h1]
      have : 2 * (8 * s + k) + 1 < 2 * n := by omega
      simp [this]
    have hck : ∀ k, k < 8 → (clockL (2 * n) q n)[8 * s + k]? = some (!(c.testBit (7 - k)) && !(lastAt c last k) && !(mk && decide (k = 5))) := by
      intro k hk
      have h1 := (msym_get c mk 8 last k hk).2
      rw [clockL_get _ _ _ _ (by omega), hqs, List.getD_eq_getElem?_getD, List.getElem?_append_right (by omega), show 2 * (8 * s + k) - pre.length = 2 * k by omega, List.getElem?_append_left (by rw [msym_len]; omega), h1]
      have h2 : 2 * (8 * s + k) < 2 * n := by omega
      have hk5 : decide (8 - 1 - k = 2) = decide (k = 5) := by
        apply decide_eq_decide.2; omega
      simp only [h2, decide_true, Bool.true_and, Option.getD_some, lastAt, hk5]
    have d5 := hdk 5 (by omega)
    have d4 := hdk 4 (by omega)
    have c5 := hck 5 (by omega)
    have l5 : lastAt c last 5 = c.testBit 3 := rfl
    have t5 : decide (5 = 5) = true := rfl
    rw [show 7 - 5 = 2 from rfl] at d5 c5
    rw [show 7 - 4 = 3 from rfl] at d4
    rw [l5, t5, Bool.and_true] at c5
    have wx5 : IntKind.i64.wrap (((8 * s : Nat) : Int) + 5) = ((8 * s + 5 : Nat) : Int) := by rw [wrI _ (by omega) (by omega)]; omega
    have wx4 : IntKind.i64.wrap (((8 * s : Nat) : Int) + 4) = ((8 * s + 4 : Nat) : Int) := by rw [wrI _ (by omega) (by omega)]; omega
    have wx8 : IntKind.i64.wrap (((8 * s : Nat) : Int) + 8) = ((8 * (s + 1) : Nat) : Int) := by rw [wrI _ (by omega) (by omega)]; omega
    have i5 := boos_idx hd ((8 * s + 5 : Nat) : Int) (8 * s + 5) rfl (by rw [dataL_len]; omega)
    have i4 := boos_idx hd ((8 * s + 4 : Nat) : Int) (8 * s + 4) rfl (by rw [dataL_len]; omega)
    have j5 := boos_idx hc ((8 * s + 5 : Nat) : Int) (8 * s + 5) rfl (by rw [clockL_len]; omega)
    have v5 := boos_ld hd (8 * s + 5) _ d5
    have v4 := boos_ld hd (8 * s + 4) _ d4
    have u5 := boos_ld hc (8 * s + 5) _ c5
    have inner := rp_l0 vd vc vo (dataL (2 * n) q n) (clockL (2 * n) q n) (8 * s) c hc256 mk last H hd hc (by rw [dataL_len]; omega) (by rw [clockL_len]; omega) (by omega) hdk hck 8 0 0
    have h00 : c >>> (8 - 0) = 0 := by rw [Nat.shiftRight_eq_div_pow]; omega
    rw [h00] at inner
    have hl0 : lastAt c last 0 = last := rfl
    rw [hl0] at inner
    have wc := wrU8' (c : Int) (by omega) (by omega)
    -- what follows the bits
    have next : ∀ vo' l' H', OutP n0 H' vo' l' → l'.map strip = rdI (l.map strip) (mk, c) → l'.length ≤ l.length + 1 → (∀ p ∈ l', p.2.1.length + rest.length ≤ 100000) → Keep n0 H H' → Run Try.prog tab LL [(8, vd), (9, vc), (10, vo'), (11, .bool (c.testBit 0)), (12, .int .i64 ((8 * (s + 1) : Nat) : Int))] H' Q := by
      intro vo' l' H' o' hm' hl' hpl' k'
      refine ih' l' vo' H' Q (Sl.keep k' hd hvd) (Sl.keep k' hc hvc) (fun b hb => h8 b (by simp [hb])) (by rw [hqs]; simp) (by simp [msym_len]; omega) (by omega) o' (by have := k'.1; omega) (by omega) hpl' ?_
      intro vo2 l2 H2 last2 j o2 hm2 k2
      exact hq vo2 l2 H2 last2 j o2 (by rw [hm2, hm']; rfl) (k'.trans k2)
    clear hdk hck d5 d4 c5 ih ih'
    have n0int : ((0 : Nat) : Int) = 0 := rfl
    rw [n0int] at inner
    cases mk with
    | true =>
      have h161 := hmk rfl
      subst h161
      have ht5 : (161 : Nat).testBit 2 = false := by decide
      have ht4 : (161 : Nat).testBit 3 = false := by decide
      have ht0 : (161 : Nat).testBit 0 = true := by decide
      have n161 : ((161 : Nat) : Int) = 161 := rfl
      rw [ht5] at v5 u5
      rw [ht4] at v4 u5
      rw [ht0] at inner next
      rw [n161] at inner
      simp only [Bool.not_true, Bool.not_false, Bool.and_true, Bool.and_false, Bool.true_and, Bool.false_and] at u5
      have hbuild : ∀ (fr : Fr) (H : AH), xval Try.prog (xc Try.prog tab) ⟨some 127, .build [.bool false, .slice none 0 0] [(0, 1, .const (.bool true))], none⟩ fr H = some (.agg #[.bool true, .slice none 0 0], H) := fun _ _ => rfl
      simp only [xmfm_ReadParts_l1, ofArgs, run_seq, run_block, run_ops, run_skip, run_exit, run_ret, thenQ_normal, thenQ_exit, thenQ_ret, blockQ_normal, blockQ_exit, blockQ_ret, retQ_ret, retQ_normal, ops_nil, ops_none, got_some, ops_wT, ops_wTn, ops_wF, ops_wFn, ops_wU, dops_wT, dops_wTn, dops_wF, dops_wFn, dops_wU, run_condT, run_condF, alt2_int, altB_bool, altI_int, altBB_bool, v_min, v_max, v_not, v_neg, optEv_none, optEv_some, isSome'_none, isSome'_some, pExt0, pExt1, pExt2, Bool.false_and, Bool.true_and, Bool.not_true, Bool.not_false, cond_true, cond_false, dops_nil, dops_none, xval_call, v_mov, v_bin, v_len, v_ext, v_idxA, v_ld, v_st, v_app, v_appN, v_cvs, v_bs1, pBs1, v_slc, v_conv, v_fld, v_fldA, v_new, v_box, v_mks, v_copy, v_isnil, v_nilck, v_pick, ev, evs_nil, evs_cons, fr_get_cons, fr_put_nil, fr_put_cons, fr_put_some, fr_put_none, fr_keep_nil, fr_keep_cons, fr_has_nil, fr_has_cons, Option.bind_some, Option.map_some, xbin, ibin, xresult_eq, xress_nil, xress_tmp, resV, ex_some, if_true, if_false, ite_true, ite_false, reduceIte, reduceCtorEq, Nat.reduceEqDiff, Nat.reduceLT, Nat.reduceLeDiff, Int.reduceLT, Int.reduceLE, Nat.zero_add, Nat.reduceAdd, Bool.false_eq_true, decide_eq_true_eq, decide_eq_false_iff_not, true_implies, false_implies, and_true, true_and, e1, w1, hlt, decide_true, wx5, wx4, i5, i4, j5, v5, v4, u5]
      refine inner _ (by omega) rfl ?_
      simp only [ofArgs, run_seq, run_block, run_ops, run_skip, run_exit, run_ret, thenQ_normal, thenQ_exit, thenQ_ret, blockQ_normal, blockQ_exit, blockQ_ret, retQ_ret, retQ_normal, ops_nil, ops_none, got_some, ops_wT, ops_wTn, ops_wF, ops_wFn, ops_wU, dops_wT, dops_wTn, dops_wF, dops_wFn, dops_wU, run_condT, run_condF, alt2_int, altB_bool, altI_int, altBB_bool, v_min, v_max, v_not, v_neg, optEv_none, optEv_some, isSome'_none, isSome'_some, pExt0, pExt1, pExt2, Bool.false_and, Bool.true_and, Bool.not_true, Bool.not_false, cond_true, cond_false, dops_nil, dops_none, xval_call, v_mov, v_bin, v_len, v_ext, v_idxA, v_ld, v_st, v_app, v_appN, v_cvs, v_bs1, pBs1, v_slc, v_conv, v_fld, v_fldA, v_new, v_box, v_mks, v_copy, v_isnil, v_nilck, v_pick, ev, evs_nil, evs_cons, fr_get_cons, fr_put_nil, fr_put_cons, fr_put_some, fr_put_none, fr_keep_nil, fr_keep_cons, fr_has_nil, fr_has_cons, Option.bind_some, Option.map_some, xbin, ibin, xresult_eq, xress_nil, xress_tmp, resV, ex_some, if_true, if_false, ite_true, ite_false, reduceIte, reduceCtorEq, Nat.reduceEqDiff, Nat.reduceLT, Nat.reduceLeDiff, Int.reduceLT, Int.reduceLE, Nat.zero_add, Nat.reduceAdd, Bool.false_eq_true, decide_eq_true_eq, decide_eq_false_iff_not, true_implies, false_implies, and_true, true_and, bne_self_eq_false, hbuild, v_bs21, pS2_sl]
      refine out_push n0 H vo l true (.slice none 0 0) [] ho hnn (by omega) (Own.nil _ _ _) (fun b ⟨o, a, cc, e⟩ => by cases e) (fun p _ b _ ⟨o, a, cc, e⟩ => by cases e) _ ?_
      intro vo' H' o' k' _
      simp only [ofArgs, run_seq, run_block, run_ops, run_skip, run_exit, run_ret, thenQ_normal, thenQ_exit, thenQ_ret, blockQ_normal, blockQ_exit, blockQ_ret, retQ_ret, retQ_normal, ops_nil, ops_none, got_some, ops_wT, ops_wTn, ops_wF, ops_wFn, ops_wU, dops_wT, dops_wTn, dops_wF, dops_wFn, dops_wU, run_condT, run_condF, alt2_int, altB_bool, altI_int, altBB_bool, v_min, v_max, v_not, v_neg, optEv_none, optEv_some, isSome'_none, isSome'_some, pExt0, pExt1, pExt2, Bool.false_and, Bool.true_and, Bool.not_true, Bool.not_false, cond_true, cond_false, dops_nil, dops_none, xval_call, v_mov, v_bin, v_len, v_ext, v_idxA, v_ld, v_st, v_app, v_appN, v_cvs, v_bs1, pBs1, v_slc, v_conv, v_fld, v_fldA, v_new, v_box, v_mks, v_copy, v_isnil, v_nilck, v_pick, ev, evs_nil, evs_cons, fr_get_cons, fr_put_nil, fr_put_cons, fr_put_some, fr_put_none, fr_keep_nil, fr_keep_cons, fr_has_nil, fr_has_cons, Option.bind_some, Option.map_some, xbin, ibin, xresult_eq, xress_nil, xress_tmp, resV, ex_some, if_true, if_false, ite_true, ite_false, reduceIte, reduceCtorEq, Nat.reduceEqDiff, Nat.reduceLT, Nat.reduceLeDiff, Int.reduceLT, Int.reduceLE, Nat.zero_add, Nat.reduceAdd, Bool.false_eq_true, decide_eq_true_eq, decide_eq_false_iff_not, true_implies, false_implies, and_true, true_and, wx8]
      refine next vo' _ H' o' (by simp [rdI, strip]) (by simp) (fun p hp => ?_) k'
      rcases List.mem_append.1 hp with h1 | h1
      · have := hbl2 p h1; omega
      · simp only [List.mem_singleton] at h1
        subst h1
        simp; omega
    | false =>
      rcases List.eq_nil_or_concat l with rfl | ⟨li, ⟨m, bs, w⟩, rfl⟩
      · have e0 : pLen vo H = some (.int .i64 0, H) := pLen_ok ho.own.1
        have z : ((0 : Int) == 0) = true := rfl
        have x1 := hext_push H ⟨[.int .u8 (c : Int)], 1, false, false⟩
        have e0' : pLen vo H = some (.int .i64 0, H) := e0
        cases hb2 : c.testBit 2 <;> cases hb3 : c.testBit 3 <;>
          (rw [hb2] at v5 u5
           rw [hb3] at v4 u5
           simp only [Bool.not_true, Bool.not_false, Bool.and_true, Bool.and_false, Bool.true_and, Bool.false_and] at u5
           simp only [xmfm_ReadParts_l1, ofArgs, run_seq, run_block, run_ops, run_skip, run_exit, run_ret, thenQ_normal, thenQ_exit, thenQ_ret, blockQ_normal, blockQ_exit, blockQ_ret, retQ_ret, retQ_normal, ops_nil, ops_none, got_some, ops_wT, ops_wTn, ops_wF, ops_wFn, ops_wU, dops_wT, dops_wTn, dops_wF, dops_wFn, dops_wU, run_condT, run_condF, alt2_int, altB_bool, altI_int, altBB_bool, v_min, v_max, v_not, v_neg, optEv_none, optEv_some, isSome'_none, isSome'_some, pExt0, pExt1, pExt2, Bool.false_and, Bool.true_and, Bool.not_true, Bool.not_false, cond_true, cond_false, dops_nil, dops_none, xval_call, v_mov, v_bin, v_len, v_ext, v_idxA, v_ld, v_st, v_app, v_appN, v_cvs, v_bs1, pBs1, v_slc, v_conv, v_fld, v_fldA, v_new, v_box, v_mks, v_copy, v_isnil, v_nilck, v_pick, ev, evs_nil, evs_cons, fr_get_cons, fr_put_nil, fr_put_cons, fr_put_some, fr_put_none, fr_keep_nil, fr_keep_cons, fr_has_nil, fr_has_cons, Option.bind_some, Option.map_some, xbin, ibin, xresult_eq, xress_nil, xress_tmp, resV, ex_some, if_true, if_false, ite_true, ite_false, reduceIte, reduceCtorEq, Nat.reduceEqDiff, Nat.reduceLT, Nat.reduceLeDiff, Int.reduceLT, Int.reduceLE, Nat.zero_add, Nat.reduceAdd, Bool.false_eq_true, decide_eq_true_eq, decide_eq_false_iff_not, true_implies, false_implies, and_true, true_and, e1, w1, hlt, decide_true, wx5, wx4, i5, i4, j5, v5, v4, u5]
           refine inner _ (by omega) rfl ?_
           simp only [ofArgs, run_seq, run_block, run_ops, run_skip, run_exit, run_ret, thenQ_normal, thenQ_exit, thenQ_ret, blockQ_normal, blockQ_exit, blockQ_ret, retQ_ret, retQ_normal, ops_nil, ops_none, got_some, ops_wT, ops_wTn, ops_wF, ops_wFn, ops_wU, dops_wT, dops_wTn, dops_wF, dops_wFn, dops_wU, run_condT, run_condF, alt2_int, altB_bool, altI_int, altBB_bool, v_min, v_max, v_not, v_neg, optEv_none, optEv_some, isSome'_none, isSome'_some, pExt0, pExt1, pExt2, Bool.false_and, Bool.true_and, Bool.not_true, Bool.not_false, cond_true, cond_false, dops_nil, dops_none, xval_call, v_mov, v_bin, v_len, v_ext, v_idxA, v_ld, v_st, v_app, v_appN, v_cvs, v_bs1, pBs1, v_slc, v_conv, v_fld, v_fldA, v_new, v_box, v_mks, v_copy, v_isnil, v_nilck, v_pick, ev, evs_nil, evs_cons, fr_get_cons, fr_put_nil, fr_put_cons, fr_put_some, fr_put_none, fr_keep_nil, fr_keep_cons, fr_has_nil, fr_has_cons, Option.bind_some, Option.map_some, xbin, ibin, xresult_eq, xress_nil, xress_tmp, resV, ex_some, if_true, if_false, ite_true, ite_false, reduceIte, reduceCtorEq, Nat.reduceEqDiff, Nat.reduceLT, Nat.reduceLeDiff, Int.reduceLT, Int.reduceLE, Nat.zero_add, Nat.reduceAdd, Bool.false_eq_true, decide_eq_true_eq, decide_eq_false_iff_not, true_implies, false_implies, and_true, true_and, e0, z, pConv, wc, v_b2, pB2_sl, v_bs21, pS2_sl, beq_self_eq_true]
           refine out_push n0 (H.push ⟨[.int .u8 (c : Int)], 1, false, false⟩) vo [] false (.slice (some ⟨H.n, 0, none⟩) 1 1) [(c : Int)] (ho.ext x1) (by simp; omega) (by simp) ?_ (fun b hb hv => ?_) (fun p hp => by simp at hp) _ ?_
           · exact Own.le (Own.pushed H [.int .u8 (c : Int)] 1 1 false rfl) hnn
           · obtain ⟨o, a, cc, e⟩ := hb
             simp only [Value.slice.injEq, Option.some.injEq, Addr.mk.injEq] at e
             have := ho.own.1.lt hv
             omega
           intro vo' H' o' k' _
           simp only [ofArgs, run_seq, run_block, run_ops, run_skip, run_exit, run_ret, thenQ_normal, thenQ_exit, thenQ_ret, blockQ_normal, blockQ_exit, blockQ_ret, retQ_ret, retQ_normal, ops_nil, ops_none, got_some, ops_wT, ops_wTn, ops_wF, ops_wFn, ops_wU, dops_wT, dops_wTn, dops_wF, dops_wFn, dops_wU, run_condT, run_condF, alt2_int, altB_bool, altI_int, altBB_bool, v_min, v_max, v_not, v_neg, optEv_none, optEv_some, isSome'_none, isSome'_some, pExt0, pExt1, pExt2, Bool.false_and, Bool.true_and, Bool.not_true, Bool.not_false, cond_true, cond_false, dops_nil, dops_none, xval_call, v_mov, v_bin, v_len, v_ext, v_idxA, v_ld, v_st, v_app, v_appN, v_cvs, v_bs1, pBs1, v_slc, v_conv, v_fld, v_fldA, v_new, v_box, v_mks, v_copy, v_isnil, v_nilck, v_pick, ev, evs_nil, evs_cons, fr_get_cons, fr_put_nil, fr_put_cons, fr_put_some, fr_put_none, fr_keep_nil, fr_keep_cons, fr_has_nil, fr_has_cons, Option.bind_some, Option.map_some, xbin, ibin, xresult_eq, xress_nil, xress_tmp, resV, ex_some, if_true, if_false, ite_true, ite_false, reduceIte, reduceCtorEq, Nat.reduceEqDiff, Nat.reduceLT, Nat.reduceLeDiff, Int.reduceLT, Int.reduceLE, Nat.zero_add, Nat.reduceAdd, Bool.false_eq_true, decide_eq_true_eq, decide_eq_false_iff_not, true_implies, false_implies, and_true, true_and, wx8]
           exact next vo' _ H' o' rfl (by simp) (fun p hp => by simp only [List.nil_append, List.mem_singleton] at hp; subst hp; simp; omega) (Keep.trans (HExt.keep x1 hnn) k'))
      · have e0 := pLen_ok ho.own.1
        have el0 : (li ++ [(m, bs, w)]).length = li.length + 1 := by simp
        rw [List.concat_eq_append] at *
        have hlen : pLen vo H = some (.int .i64 ((li.length + 1 : Nat) : Int), H) := by rw [e0, el0]
        have c10 : (((li.length + 1 : Nat) : Int) == 0) = false := by simp; omega
        have w0 : IntKind.i64.wrap (((li.length + 1 : Nat) : Int) - 1) = (li.length : Int) := by rw [wrI _ (by omega) (by omega)]; omega
        have ei := pIdx_ok ho.own.1 .i64 (li.length : Int) li.length rfl (by simp)
        obtain ⟨B, o, cp, blk, hvo, _⟩ := ho.own.1.live (by simp)
        have hptr : ptrAt vo (li.length * 2) = .pointer (some ⟨B, o + li.length * 2, none⟩) := by rw [hvo]; rfl
        have hptr1 : (Value.pointer (some ⟨B, o + li.length * 2 + 1, none⟩)) = ptrAt vo (li.length * 2 + 1) := by rw [hvo]; rfl
        have eld := out_last (p := (m, bs, w)) (li := li) ho.own.1
        cases hb2 : c.testBit 2 <;> cases hb3 : c.testBit 3 <;>
          (rw [hb2] at v5 u5
           rw [hb3] at v4 u5
           simp only [Bool.not_true, Bool.not_false, Bool.and_true, Bool.and_false, Bool.true_and, Bool.false_and] at u5
           simp only [xmfm_ReadParts_l1, ofArgs, run_seq, run_block, run_ops, run_skip, run_exit, run_ret, thenQ_normal, thenQ_exit, thenQ_ret, blockQ_normal, blockQ_exit, blockQ_ret, retQ_ret, retQ_normal, ops_nil, ops_none, got_some, ops_wT, ops_wTn, ops_wF, ops_wFn, ops_wU, dops_wT, dops_wTn, dops_wF, dops_wFn, dops_wU, run_condT, run_condF, alt2_int, altB_bool, altI_int, altBB_bool, v_min, v_max, v_not, v_neg, optEv_none, optEv_some, isSome'_none, isSome'_some, pExt0, pExt1, pExt2, Bool.false_and, Bool.true_and, Bool.not_true, Bool.not_false, cond_true, cond_false, dops_nil, dops_none, xval_call, v_mov, v_bin, v_len, v_ext, v_idxA, v_ld, v_st, v_app, v_appN, v_cvs, v_bs1, pBs1, v_slc, v_conv, v_fld, v_fldA, v_new, v_box, v_mks, v_copy, v_isnil, v_nilck, v_pick, ev, evs_nil, evs_cons, fr_get_cons, fr_put_nil, fr_put_cons, fr_put_some, fr_put_none, fr_keep_nil, fr_keep_cons, fr_has_nil, fr_has_cons, Option.bind_some, Option.map_some, xbin, ibin, xresult_eq, xress_nil, xress_tmp, resV, ex_some, if_true, if_false, ite_true, ite_false, reduceIte, reduceCtorEq, Nat.reduceEqDiff, Nat.reduceLT, Nat.reduceLeDiff, Int.reduceLT, Int.reduceLE, Nat.zero_add, Nat.reduceAdd, Bool.false_eq_true, decide_eq_true_eq, decide_eq_false_iff_not, true_implies, false_implies, and_true, true_and, e1, w1, hlt, decide_true, wx5, wx4, i5, i4, j5, v5, v4, u5]
           refine inner _ (by omega) rfl ?_
           simp only [ofArgs, run_seq, run_block, run_ops, run_skip, run_exit, run_ret, thenQ_normal, thenQ_exit, thenQ_ret, blockQ_normal, blockQ_exit, blockQ_ret, retQ_ret, retQ_normal, ops_nil, ops_none, got_some, ops_wT, ops_wTn, ops_wF, ops_wFn, ops_wU, dops_wT, dops_wTn, dops_wF, dops_wFn, dops_wU, run_condT, run_condF, alt2_int, altB_bool, altI_int, altBB_bool, v_min, v_max, v_not, v_neg, optEv_none, optEv_some, isSome'_none, isSome'_some, pExt0, pExt1, pExt2, Bool.false_and, Bool.true_and, Bool.not_true, Bool.not_false, cond_true, cond_false, dops_nil, dops_none, xval_call, v_mov, v_bin, v_len, v_ext, v_idxA, v_ld, v_st, v_app, v_appN, v_cvs, v_bs1, pBs1, v_slc, v_conv, v_fld, v_fldA, v_new, v_box, v_mks, v_copy, v_isnil, v_nilck, v_pick, ev, evs_nil, evs_cons, fr_get_cons, fr_put_nil, fr_put_cons, fr_put_some, fr_put_none, fr_keep_nil, fr_keep_cons, fr_has_nil, fr_has_cons, Option.bind_some, Option.map_some, xbin, ibin, xresult_eq, xress_nil, xress_tmp, resV, ex_some, if_true, if_false, ite_true, ite_false, reduceIte, reduceCtorEq, Nat.reduceEqDiff, Nat.reduceLT, Nat.reduceLeDiff, Int.reduceLT, Int.reduceLE, Nat.zero_add, Nat.reduceAdd, Bool.false_eq_true, decide_eq_true_eq, decide_eq_false_iff_not, true_implies, false_implies, and_true, true_and, hlen, c10, w0, ei, hptr, pNil_ptr, pFldA_ptr, hptr1, eld, pConv, wc]
           refine (out_grow n0 H vo li m w bs (c : Int) ho hnn (by have := hbl2 (m, bs, w) (by simp); simp only at this; omega) (fun _ H2 => Run Try.prog tab LL [(8, vd), (9, vc), (10, vo), (11, .bool (c.testBit 0)), (12, .int .i64 ((8 * (s + 1) : Nat) : Int))] H2 Q) ?_).mono ?_
           · intro w' H2 o2 k2
             refine next vo _ H2 o2 ?_ (by simp) (fun p hp => ?_) k2
             · simp only [rdI, List.map_append, List.map_cons, List.map_nil, Bool.false_eq_true, if_false]
               rw [addB_snoc]
               rfl
             · rcases List.mem_append.1 hp with h1 | h1
               · have := hbl2 p (by simp [h1]); omega
               · simp only [List.mem_singleton] at h1
                 subst h1
                 have := hbl2 (m, bs, w) (by simp)
                 simp only [List.length_append, List.length_cons, List.length_nil] at this ⊢
                 omega
           · intro w' H1 hg
             refine hg.mono ?_
             intro _ H2 hr
             simp only [ofArgs, run_seq, run_block, run_ops, run_skip, run_exit, run_ret, thenQ_normal, thenQ_exit, thenQ_ret, blockQ_normal, blockQ_exit, blockQ_ret, retQ_ret, retQ_normal, ops_nil, ops_none, got_some, ops_wT, ops_wTn, ops_wF, ops_wFn, ops_wU, dops_wT, dops_wTn, dops_wF, dops_wFn, dops_wU, run_condT, run_condF, alt2_int, altB_bool, altI_int, altBB_bool, v_min, v_max, v_not, v_neg, optEv_none, optEv_some, isSome'_none, isSome'_some, pExt0, pExt1, pExt2, Bool.false_and, Bool.true_and, Bool.not_true, Bool.not_false, cond_true, cond_false, dops_nil, dops_none, xval_call, v_mov, v_bin, v_len, v_ext, v_idxA, v_ld, v_st, v_app, v_appN, v_cvs, v_bs1, pBs1, v_slc, v_conv, v_fld, v_fldA, v_new, v_box, v_mks, v_copy, v_isnil, v_nilck, v_pick, ev, evs_nil, evs_cons, fr_get_cons, fr_put_nil, fr_put_cons, fr_put_some, fr_put_none, fr_keep_nil, fr_keep_cons, fr_has_nil, fr_has_cons, Option.bind_some, Option.map_some, xbin, ibin, xresult_eq, xress_nil, xress_tmp, resV, ex_some, if_true, if_false, ite_true, ite_false, reduceIte, reduceCtorEq, Nat.reduceEqDiff, Nat.reduceLT, Nat.reduceLeDiff, Int.reduceLT, Int.reduceLE, Nat.zero_add, Nat.reduceAdd, Bool.false_eq_true, decide_eq_true_eq, decide_eq_false_iff_not, true_implies, false_implies, and_true, true_and, wx8]
             exact hr)
end Go.Proofs.Ytejedmocjdcdgaa.D

set_option linter.unusedSimpArgs false
set_option linter.unusedVariables false
namespace Go.Proofs.Ytejedmocjdcdgaa.D
open Go Go.Det

theorem szT_le (l : List T3) : l.length ≤ szT l + 1 → True := fun _ => trivial
theorem expand_full (it : List It) (hok : ItOk it) : expand (gaps (fullI it)).1 = fullI it := by
  have h := expand_gaps (fullI it)
  rw [(fullI_gb it hok).2] at h
  simpa using h
theorem gaps_sum (it : List It) (hok : ItOk it) : (gaps (fullI it)).1.sum = 16 * (it.length : Int) + 2 := by
  have h := expand_len (gaps (fullI it)).1 (fun g hg => ((fullI_gb it hok).1 g hg).1)
  rw [expand_full it hok, fullI_len] at h
  omega
set_option maxHeartbeats 4000000 in
theorem readPs_ok (ps : List Pt) (w : List Int) (hcan : Canon ps) (cell : Int) (vt : Value) (H : AH) (Q : Value → AH → Prop) (hs : Ints H vt w) (hok : Ok w) (hcel : w.map (celOf cell) = (gaps (fullI (itemsL ps))).1) (hl : szP ps ≤ 2000) (hpl : ps.length ≤ 1000) (hc : 2 ≤ cell) (hc2 : cell ≤ 1000)
    (hq : ∀ vo l H', OutP H.n H' vo l → l.map strip = ps → HExt H H' → Q (.tuple [vo, .int .i64 0].toArray) H') : Got (xc Try.prog tab 30 [vt, .int .i64 cell] H) Q := by
  refine got_call (res := [.tmp 4, .tmp 5]) rfl ?_
  have iok := items_ok ps hcan.1
  have gb := fullI_gb _ iok
  have glen := (gaps_len (fullI (itemsL ps))).1
  have flen := fullI_len (itemsL ps)
  have hexp := expand_full _ iok
  have hn : (itemsL ps).length ≤ 2000 := hl
  have rdc := rd_canon ps hcan
  have hwl : w.length = (gaps (fullI (itemsL ps))).1.length := by rw [← hcel, List.length_map]
  generalize hT : ((.seq (.ops [⟨some 28, .mov (.tmp 6), none⟩, ⟨some 29, .call 78 [.tmp 28], none⟩, ⟨some 27, .mov (.tmp 29), none⟩, ⟨some 30, .ext (.tmp 27) 0, none⟩, ⟨some 31, .ext (.tmp 27) 1, none⟩, ⟨some 32, .ext (.tmp 27) 2, none⟩, ⟨some 8, .mov (.tmp 30), none⟩, ⟨some 9, .mov (.tmp 31), none⟩, ⟨some 7, .mov (.tmp 32), none⟩] [7, 8, 9]) (.seq (.seq (.ops [⟨some 33, .mov (.tmp 7), none⟩, ⟨some 34, .bin .neq (.tmp 33) (.const (.int .i64 0)), none⟩] [7, 8, 9, 34]) (.cond (.tmp 34) (.seq (.ops [⟨some 35, .mov (.tmp 7), none⟩, ⟨some 4, .mov (.const (.slice none 0 0)), none⟩, ⟨some 5, .mov (.tmp 35), none⟩] [4, 5]) .ret) .skip)) (.seq (.ops [⟨some 10, .mov (.const (.slice none 0 0)), none⟩] [8, 9, 10]) (.seq (.ops [⟨some 11, .mov (.const (.bool true)), none⟩] [8, 9, 10, 11]) (.seq (.seq (.ops [⟨some 12, .mov (.const (.int .i64 0)), none⟩] [8, 9, 10, 11, 12]) (.block 0 (.loop xmfm_ReadParts_l1))) (.seq (.seq (.ops [⟨some 141, .mov (.tmp 9), none⟩, ⟨some 142, .mov (.tmp 8), none⟩, ⟨some 143, .len (.tmp 142), none⟩, ⟨some 144, .bin .sub (.tmp 143) (.const (.int .i64 1)), none⟩, ⟨some 145, .idxA 1 (.tmp 141) (.tmp 144), none⟩, ⟨some 146, .ld none (.tmp 145), none⟩] [10, 146]) (.cond (.tmp 146) (.seq (.ops [⟨some 4, .mov (.const (.slice none 0 0)), none⟩, ⟨some 5, .mov (.const (.int .i64 3)), none⟩] [4, 5]) .ret) .skip)) (.seq (.seq (.ops [⟨some 147, .mov (.tmp 10), none⟩, ⟨some 148, .call 75 [.tmp 147], none⟩, ⟨some 149, .bin .gtr (.tmp 148) (.const (.int .i64 2400)), none⟩] [10, 149]) (.cond (.tmp 149) (.seq (.ops [⟨some 4, .mov (.const (.slice none 0 0)), none⟩, ⟨some 5, .mov (.const (.int .i64 2)), none⟩] [4, 5]) .ret) .skip)) (.seq (.ops [⟨some 150, .mov (.tmp 10), none⟩, ⟨some 4, .mov (.tmp 150), none⟩, ⟨some 5, .mov (.const (.int .i64 0)), none⟩] [4, 5]) .ret)))))))) : XCode) = T
  simp only [ofArgs, run_seq, run_block, run_ops, run_skip, run_exit, run_ret, thenQ_normal, thenQ_exit, thenQ_ret, blockQ_normal, blockQ_exit, blockQ_ret, retQ_ret, retQ_normal, ops_nil, ops_none, got_some, ops_wT, ops_wTn, ops_wF, ops_wFn, ops_wU, dops_wT, dops_wTn, dops_wF, dops_wFn, dops_wU, run_condT, run_condF, alt2_int, altB_bool, altI_int, altBB_bool, v_min, v_max, v_not, v_neg, optEv_none, optEv_some, isSome'_none, isSome'_some, pExt0, pExt1, pExt2, Bool.false_and, Bool.true_and, Bool.not_true, Bool.not_false, cond_true, cond_false, dops_nil, dops_none, xval_call, v_mov, v_bin, v_len, v_ext, v_idxA, v_ld, v_st, v_app, v_appN, v_cvs, v_bs1, pBs1, v_slc, v_conv, v_fld, v_fldA, v_new, v_box, v_mks, v_copy, v_isnil, v_nilck, v_pick, ev, evs_nil, evs_cons, fr_get_cons, fr_put_nil, fr_put_cons, fr_put_some, fr_put_none, fr_keep_nil, fr_keep_cons, fr_has_nil, fr_has_cons, Option.bind_some, Option.map_some, xbin, ibin, xresult_eq, xress_nil, xress_tmp, resV, ex_some, if_true, if_false, ite_true, ite_false, reduceIte, reduceCtorEq, Nat.reduceEqDiff, Nat.reduceLT, Nat.reduceLeDiff, Int.reduceLT, Int.reduceLE, Nat.zero_add, Nat.reduceAdd, Bool.false_eq_true, decide_eq_true_eq, decide_eq_false_iff_not, true_implies, false_implies, and_true, true_and]
  refine cells_ok w cell 4 vt H _ hs (by omega) hc hc2 (by omega) hok ?_ ?_
  · intro p hp
    have h1 : celOf cell p ∈ w.map (celOf cell) := List.mem_map_of_mem hp
    rw [hcel] at h1
    exact gb.1 _ h1
  rw [hcel]
  intro vl H1 o1 x1
  subst hT
  generalize hT : ((.seq (.ops [⟨some 10, .mov (.const (.slice none 0 0)), none⟩] [8, 9, 10]) (.seq (.ops [⟨some 11, .mov (.const (.bool true)), none⟩] [8, 9, 10, 11]) (.seq (.seq (.ops [⟨some 12, .mov (.const (.int .i64 0)), none⟩] [8, 9, 10, 11, 12]) (.block 0 (.loop xmfm_ReadParts_l1))) (.seq (.seq (.ops [⟨some 141, .mov (.tmp 9), none⟩, ⟨some 142, .mov (.tmp 8), none⟩, ⟨some 143, .len (.tmp 142), none⟩, ⟨some 144, .bin .sub (.tmp 143) (.const (.int .i64 1)), none⟩, ⟨some 145, .idxA 1 (.tmp 141) (.tmp 144), none⟩, ⟨some 146, .ld none (.tmp 145), none⟩] [10, 146]) (.cond (.tmp 146) (.seq (.ops [⟨some 4, .mov (.const (.slice none 0 0)), none⟩, ⟨some 5, .mov (.const (.int .i64 3)), none⟩] [4, 5]) .ret) .skip)) (.seq (.seq (.ops [⟨some 147, .mov (.tmp 10), none⟩, ⟨some 148, .call 75 [.tmp 147], none⟩, ⟨some 149, .bin .gtr (.tmp 148) (.const (.int .i64 2400)), none⟩] [10, 149]) (.cond (.tmp 149) (.seq (.ops [⟨some 4, .mov (.const (.slice none 0 0)), none⟩, ⟨some 5, .mov (.const (.int .i64 2)), none⟩] [4, 5]) .ret) .skip)) (.seq (.ops [⟨some 150, .mov (.tmp 10), none⟩, ⟨some 4, .mov (.tmp 150), none⟩, ⟨some 5, .mov (.const (.int .i64 0)), none⟩] [4, 5]) .ret)))))) : XCode) = T
  simp only [ofArgs, run_seq, run_block, run_ops, run_skip, run_exit, run_ret, thenQ_normal, thenQ_exit, thenQ_ret, blockQ_normal, blockQ_exit, blockQ_ret, retQ_ret, retQ_normal, ops_nil, ops_none, got_some, ops_wT, ops_wTn, ops_wF, ops_wFn, ops_wU, dops_wT, dops_wTn, dops_wF, dops_wFn, dops_wU, run_condT, run_condF, alt2_int, altB_bool, altI_int, altBB_bool, v_min, v_max, v_not, v_neg, optEv_none, optEv_some, isSome'_none, isSome'_some, pExt0, pExt1, pExt2, Bool.false_and, Bool.true_and, Bool.not_true, Bool.not_false, cond_true, cond_false, dops_nil, dops_none, xval_call, v_mov, v_bin, v_len, v_ext, v_idxA, v_ld, v_st, v_app, v_appN, v_cvs, v_bs1, pBs1, v_slc, v_conv, v_fld, v_fldA, v_new, v_box, v_mks, v_copy, v_isnil, v_nilck, v_pick, ev, evs_nil, evs_cons, fr_get_cons, fr_put_nil, fr_put_cons, fr_put_some, fr_put_none, fr_keep_nil, fr_keep_cons, fr_has_nil, fr_has_cons, Option.bind_some, Option.map_some, xbin, ibin, xresult_eq, xress_nil, xress_tmp, resV, ex_some, if_true, if_false, ite_true, ite_false, reduceIte, reduceCtorEq, Nat.reduceEqDiff, Nat.reduceLT, Nat.reduceLeDiff, Int.reduceLT, Int.reduceLE, Nat.zero_add, Nat.reduceAdd, Bool.false_eq_true, decide_eq_true_eq, decide_eq_false_iff_not, true_implies, false_implies, and_true, true_and, bne_self_eq_false]
  refine bits_ok (gaps (fullI (itemsL ps))).1 (8 * (itemsL ps).length + 1) vl H1 _ o1.ints (fun g hg => (gb.1 g hg).1) (by omega) (by rw [hexp]; exact flen) (by omega) (by omega) (by omega) ?_
  intro vd vc H2 od oc x2
  rw [hexp] at od oc
  have hvd : ∀ b, inB vd b → b < H2.n := fun b hb => od.1.lt hb
  have hvc : ∀ b, inB vc b → b < H2.n := fun b hb => oc.1.lt hb
  subst hT
  generalize hT : ((.seq (.seq (.ops [⟨some 141, .mov (.tmp 9), none⟩, ⟨some 142, .mov (.tmp 8), none⟩, ⟨some 143, .len (.tmp 142), none⟩, ⟨some 144, .bin .sub (.tmp 143) (.const (.int .i64 1)), none⟩, ⟨some 145, .idxA 1 (.tmp 141) (.tmp 144), none⟩, ⟨some 146, .ld none (.tmp 145), none⟩] [10, 146]) (.cond (.tmp 146) (.seq (.ops [⟨some 4, .mov (.const (.slice none 0 0)), none⟩, ⟨some 5, .mov (.const (.int .i64 3)), none⟩] [4, 5]) .ret) .skip)) (.seq (.seq (.ops [⟨some 147, .mov (.tmp 10), none⟩, ⟨some 148, .call 75 [.tmp 147], none⟩, ⟨some 149, .bin .gtr (.tmp 148) (.const (.int .i64 2400)), none⟩] [10, 149]) (.cond (.tmp 149) (.seq (.ops [⟨some 4, .mov (.const (.slice none 0 0)), none⟩, ⟨some 5, .mov (.const (.int .i64 2)), none⟩] [4, 5]) .ret) .skip)) (.seq (.ops [⟨some 150, .mov (.tmp 10), none⟩, ⟨some 4, .mov (.tmp 150), none⟩, ⟨some 5, .mov (.const (.int .i64 0)), none⟩] [4, 5]) .ret))) : XCode) = T
  simp only [ofArgs, run_seq, run_block, run_ops, run_skip, run_exit, run_ret, thenQ_normal, thenQ_exit, thenQ_ret, blockQ_normal, blockQ_exit, blockQ_ret, retQ_ret, retQ_normal, ops_nil, ops_none, got_some, ops_wT, ops_wTn, ops_wF, ops_wFn, ops_wU, dops_wT, dops_wTn, dops_wF, dops_wFn, dops_wU, run_condT, run_condF, alt2_int, altB_bool, altI_int, altBB_bool, v_min, v_max, v_not, v_neg, optEv_none, optEv_some, isSome'_none, isSome'_some, pExt0, pExt1, pExt2, Bool.false_and, Bool.true_and, Bool.not_true, Bool.not_false, cond_true, cond_false, dops_nil, dops_none, xval_call, v_mov, v_bin, v_len, v_ext, v_idxA, v_ld, v_st, v_app, v_appN, v_cvs, v_bs1, pBs1, v_slc, v_conv, v_fld, v_fldA, v_new, v_box, v_mks, v_copy, v_isnil, v_nilck, v_pick, ev, evs_nil, evs_cons, fr_get_cons, fr_put_nil, fr_put_cons, fr_put_some, fr_put_none, fr_keep_nil, fr_keep_cons, fr_has_nil, fr_has_cons, Option.bind_some, Option.map_some, xbin, ibin, xresult_eq, xress_nil, xress_tmp, resV, ex_some, if_true, if_false, ite_true, ite_false, reduceIte, reduceCtorEq, Nat.reduceEqDiff, Nat.reduceLT, Nat.reduceLeDiff, Int.reduceLT, Int.reduceLE, Nat.zero_add, Nat.reduceAdd, Bool.false_eq_true, decide_eq_true_eq, decide_eq_false_iff_not, true_implies, false_implies, and_true, true_and, bne_self_eq_false]
  refine rp_l1P H2.n vd vc (fullI (itemsL ps)) (8 * (itemsL ps).length + 1) flen (by omega) hvd hvc (itemsL ps) [] 0 true [] (.slice none 0 0) H2 _ od.1 oc.1 iok (by simp [fullI]) (by simp) (by omega) (OutP.nil _ _) (Nat.le_refl _) (by simp; omega) (fun p hp => by simp at hp) ?_
  intro vo l H3 last j o3 hm k3
  rw [List.map_nil, rdc] at hm
  have d3 : Boos H3 vd _ := Sl.keep k3 od.1 hvd
  have c3 : Boos H3 vc _ := Sl.keep k3 oc.1 hvc
  have e := boos_len d3
  rw [dataL_len] at e
  have e2 := boos_idx c3 ((8 * (itemsL ps).length : Nat) : Int) _ rfl (by rw [clockL_len]; omega)
  have e3 := boos_ld c3 (8 * (itemsL ps).length) false (by
    rw [clockL_get _ _ _ _ (by omega)]
    have : (fullI (itemsL ps)).getD (2 * (8 * (itemsL ps).length)) false = false := by
      unfold fullI
      rw [List.getD_eq_getElem?_getD, List.getElem?_append_right (by rw [isym_len]; omega), isym_len]
      have : 2 * (8 * (itemsL ps).length) - 16 * (itemsL ps).length = 0 := by omega
      rw [this]
      rfl
    rw [this]; simp)
  have w1 : IntKind.i64.wrap (((8 * (itemsL ps).length + 1 : Nat) : Int) - 1) = ((8 * (itemsL ps).length : Nat) : Int) := by rw [wrI _ (by omega) (by omega)]; omega
  subst hT
  generalize hT : ((.seq (.ops [⟨some 150, .mov (.tmp 10), none⟩, ⟨some 4, .mov (.tmp 150), none⟩, ⟨some 5, .mov (.const (.int .i64 0)), none⟩] [4, 5]) .ret) : XCode) = T
  simp only [ofArgs, run_seq, run_block, run_ops, run_skip, run_exit, run_ret, thenQ_normal, thenQ_exit, thenQ_ret, blockQ_normal, blockQ_exit, blockQ_ret, retQ_ret, retQ_normal, ops_nil, ops_none, got_some, ops_wT, ops_wTn, ops_wF, ops_wFn, ops_wU, dops_wT, dops_wTn, dops_wF, dops_wFn, dops_wU, run_condT, run_condF, alt2_int, altB_bool, altI_int, altBB_bool, v_min, v_max, v_not, v_neg, optEv_none, optEv_some, isSome'_none, isSome'_some, pExt0, pExt1, pExt2, Bool.false_and, Bool.true_and, Bool.not_true, Bool.not_false, cond_true, cond_false, dops_nil, dops_none, xval_call, v_mov, v_bin, v_len, v_ext, v_idxA, v_ld, v_st, v_app, v_appN, v_cvs, v_bs1, pBs1, v_slc, v_conv, v_fld, v_fldA, v_new, v_box, v_mks, v_copy, v_isnil, v_nilck, v_pick, ev, evs_nil, evs_cons, fr_get_cons, fr_put_nil, fr_put_cons, fr_put_some, fr_put_none, fr_keep_nil, fr_keep_cons, fr_has_nil, fr_has_cons, Option.bind_some, Option.map_some, xbin, ibin, xresult_eq, xress_nil, xress_tmp, resV, ex_some, if_true, if_false, ite_true, ite_false, reduceIte, reduceCtorEq, Nat.reduceEqDiff, Nat.reduceLT, Nat.reduceLeDiff, Int.reduceLT, Int.reduceLE, Nat.zero_add, Nat.reduceAdd, Bool.false_eq_true, decide_eq_true_eq, decide_eq_false_iff_not, true_implies, false_implies, and_true, true_and, e, w1, e2, e3]
  have hll : l.length = ps.length := by rw [← hm, List.length_map]
  have hsz : szT l = szP ps := by unfold szT; rw [hm]
  refine sizeP_ok vo l H3 _ o3.rp (by omega) (by omega) ?_
  intro H4 x4
  have c1 : ¬ (((szT l : Nat) : Int) > 2400) := by omega
  subst hT
  simp only [ofArgs, run_seq, run_block, run_ops, run_skip, run_exit, run_ret, thenQ_normal, thenQ_exit, thenQ_ret, blockQ_normal, blockQ_exit, blockQ_ret, retQ_ret, retQ_normal, ops_nil, ops_none, got_some, ops_wT, ops_wTn, ops_wF, ops_wFn, ops_wU, dops_wT, dops_wTn, dops_wF, dops_wFn, dops_wU, run_condT, run_condF, alt2_int, altB_bool, altI_int, altBB_bool, v_min, v_max, v_not, v_neg, optEv_none, optEv_some, isSome'_none, isSome'_some, pExt0, pExt1, pExt2, Bool.false_and, Bool.true_and, Bool.not_true, Bool.not_false, cond_true, cond_false, dops_nil, dops_none, xval_call, v_mov, v_bin, v_len, v_ext, v_idxA, v_ld, v_st, v_app, v_appN, v_cvs, v_bs1, pBs1, v_slc, v_conv, v_fld, v_fldA, v_new, v_box, v_mks, v_copy, v_isnil, v_nilck, v_pick, ev, evs_nil, evs_cons, fr_get_cons, fr_put_nil, fr_put_cons, fr_put_some, fr_put_none, fr_keep_nil, fr_keep_cons, fr_has_nil, fr_has_cons, Option.bind_some, Option.map_some, xbin, ibin, xresult_eq, xress_nil, xress_tmp, resV, ex_some, if_true, if_false, ite_true, ite_false, reduceIte, reduceCtorEq, Nat.reduceEqDiff, Nat.reduceLT, Nat.reduceLeDiff, Int.reduceLT, Int.reduceLE, Nat.zero_add, Nat.reduceAdd, Bool.false_eq_true, decide_eq_true_eq, decide_eq_false_iff_not, true_implies, false_implies, and_true, true_and, c1, decide_false]
  have xn := (x1.trans x2).1
  exact hq vo l H4 ((o3.ext x4).le xn) hm (Keep.trans (n0 := H.n) (x1.trans x2) (Keep.trans (k3.le xn) (HExt.keep x4 (by have := k3.1; omega))))

/-! ### parts are compared -/
theorem tyB : Try.prog.underlying 4 = some .bool := by kernel_rfl
end Go.Proofs.Ytejedmocjdcdgaa.D

set_option linter.unusedSimpArgs false
set_option linter.unusedVariables false
namespace Go.Proofs.Ytejedmocjdcdgaa.D
open Go Go.Det

/-! ### the law's parts -/
theorem v_b2t {P : Program} {T : XTab} (fr : Fr) (H : AH) (dd : Option Nat) (x : Operand) (z0 z1 : Value) : xval P (xc P T) ⟨dd, .build [z0, z1] [(0, 1, .const (.bool true)), (1, 1, x)], none⟩ fr H = (ev fr x).bind fun v => pB2 (.bool true) v H := by
  have e : xop P fr H (.build [z0, z1] [(0, 1, .const (.bool true)), (1, 1, x)]) = xop P fr H (.build [.bool true, z1] [(1, 1, x)]) := by rw [e_build, e_build]; rfl
  rw [xval_op dd _ fr H rfl, e, ← xval_op (P := P) (T := T) dd _ fr H rfl]
  exact v_b2 fr H dd x (.bool true) z1
theorem v_bs02 {P : Program} {T : XTab} (fr : Fr) (H : AH) (dd : Option Nat) (e : TypeId) (z0 z1 : Value) : xval P (xc P T) ⟨dd, .bslice e 2 0 [z0, z1] [], none⟩ fr H = some (.slice (some ⟨H.n, 0, none⟩) 0 0, H.push ⟨[], 2, false, false⟩) := rfl
def pBs4 (a b c : Value) (v : Value) (H : AH) : Option (Value × AH) :=
  match v with
  | .int k n => some (.slice (some ⟨H.n, 0, none⟩) 4 4, H.push ⟨[.int k n, a, b, c], 1, false, false⟩)
  | _ => none
def altN (o : Option Value) (f : IntKind → Int → Option (Value × AH)) (z : Option (Value × AH)) : Option (Value × AH) :=
  match o with
  | some (.int k n) => f k n
  | _ => z
theorem altN_int (k : IntKind) (n : Int) (f : IntKind → Int → Option (Value × AH)) (z : Option (Value × AH)) : altN (some (.int k n)) f z = f k n := rfl
theorem v_bs4 {P : Program} {T : XTab} (fr : Fr) (H : AH) (dd : Option Nat) (e : TypeId) (x : Operand) (z : Value) (ka kb kc : IntKind) (a b c : Int) : xval P (xc P T) ⟨dd, .bslice e 1 4 [z] [(0, x), (1, .const (.int ka a)), (2, .const (.int kb b)), (3, .const (.int kc c))], none⟩ fr H =
    altN (ev fr x) (fun k n => some (.slice (some ⟨H.n, 0, none⟩) 4 4, H.push ⟨[.int k n, .int ka a, .int kb b, .int kc c], 1, false, false⟩)) (xop P fr H (.bslice e 1 4 [z] [(0, x), (1, .const (.int ka a)), (2, .const (.int kb b)), (3, .const (.int kc c))])) := by
  rw [xval_op dd _ fr H rfl]
  unfold altN
  split
  · rename_i k n h
    rw [e_bslice]
    simp only [List.map_cons, List.map_nil, xfill, h]
    rfl
  · rfl
theorem OutP.same {n1 : Nat} {H H' : AH} {vo : Value} {l : List T3} (h : OutP n1 H vo l) (hn : H.n ≤ H'.n) (hg : ∀ b, n1 ≤ b → b < H.n → H'.get b = H.get b) : OutP n1 H' vo l := by
  refine ⟨Own.same h.own hn fun b hb => ?_, fun p hp => Own.same (h.byt p hp) hn fun b hb => ?_, h.dis, h.pw⟩
  · refine hg b ?_ (h.own.1.lt hb)
    obtain ⟨o, l, c, e⟩ := hb
    exact (h.own.2 b o l c e).1
  · refine hg b ?_ ((h.byt p hp).1.lt hb)
    obtain ⟨o, l, c, e⟩ := hb
    exact ((h.byt p hp).2 b o l c e).1
theorem Strm.same {nS : Nat} {H H' : AH} {B : Nat} {v : Value} {l : List Int} (h : Strm nS H B v l) (hn : H.n ≤ H'.n) (hB : H'.get B = H.get B) (hg : ∀ b, b < nS → H'.get b = H.get b) : Strm nS H' B v l :=
  ⟨h.nb, Nat.lt_of_lt_of_le h.lt hn, hB.trans h.box, Sl.same h.ints hn fun b hb => hg b (h.out b hb), h.out⟩
theorem canon_snoc (ps : List Pt) (bs : List Int) (h : Canon ps) (hb : B8 bs) : Canon (ps ++ [(true, bs)]) := by
  obtain ⟨h1, h2, h3⟩ := h
  refine ⟨fun p hp => ?_, fun p hp => ?_, fun p hp => ?_⟩
  · rcases List.mem_append.1 hp with h | h
    · exact h1 p h
    · simp only [List.mem_singleton] at h; subst h; exact hb
  · cases ps with
    | nil => simp at hp
    | cons a ps =>
      simp only [List.cons_append, List.tail_cons] at hp
      rcases List.mem_append.1 hp with h | h
      · exact h2 p h
      · simp only [List.mem_singleton] at h; subst h; rfl
  · cases ps with
    | nil => simp only [List.nil_append, List.head?_cons, Option.some.injEq] at hp; subst hp; exact .inl rfl
    | cons a ps => exact h3 p hp

end Go.Proofs.Ytejedmocjdcdgaa.D

set_option linter.unusedSimpArgs false
set_option linter.unusedVariables false
namespace Go.Proofs.Ytejedmocjdcdgaa.D
open Go Go.Det

end Go.Proofs.Ytejedmocjdcdgaa.D

set_option linter.unusedSimpArgs false
set_option linter.unusedVariables false
namespace Go.Proofs.Ytejedmocjdcdgaa.D
open Go Go.Det

/-! ### sectors -/
structure SD where
  tr : Int
  nu : Int
  w : Value
  bs : List Int
  bad : Bool
def SDL : LS SD := ⟨4, fun s => [.int .i64 s.tr, .int .i64 s.nu, s.w, .bool s.bad], fun _ => rfl, by decide⟩
def SdOk (s : SD) : Prop := 0 ≤ s.tr ∧ s.tr ≤ 255 ∧ 0 ≤ s.nu ∧ s.nu ≤ 255 ∧ s.bs.length = 128 ∧ B8 s.bs
def SDs (H : AH) (v : Value) (l : List SD) : Prop := SL SDL H v l ∧ ∀ s ∈ l, Byts H s.w s.bs
theorem SDs.ext {H H' : AH} {v : Value} {l : List SD} (h : SDs H v l) (x : HExt H H') : SDs H' v l := ⟨h.1.ext x, fun s hs => Sl.ext x (h.2 s hs)⟩
theorem sds_idx {H : AH} {v : Value} {pre rest : List SD} {s : SD} (h : SDs H v (pre ++ s :: rest)) (i : Int) (hi : i = (pre.length : Int)) : pIdx 4 v (.int .i64 i) H = some (ptrAt v (pre.length * 4), H) := h.1.idx .i64 i hi
theorem sds_ld {H : AH} {v : Value} {pre rest : List SD} {s : SD} (h : SDs H v (pre ++ s :: rest)) : pLd (some 4) (ptrAt v (pre.length * 4)) H = some (.agg #[.int .i64 s.tr, .int .i64 s.nu, s.w, .bool s.bad], H) := h.1.ld
/-- a sector in a box of its own -/
def ZSD : Blk := ⟨[.int .i64 0, .int .i64 0, .slice none 0 0, .bool false], 1, false, false⟩
def bxS (H : AH) (s : SD) : AH := (H.push ⟨[.int .i64 0, .int .i64 0, .slice none 0 0, .bool false], 1, false, false⟩).set H.n ⟨[.int .i64 s.tr, .int .i64 s.nu, s.w, .bool s.bad], 1, false, false⟩
theorem bxS_ext (H : AH) (s : SD) : HExt H (bxS H s) := box_ext _ _ _
theorem bxS_n (H : AH) (s : SD) : (bxS H s).n = H.n + 1 := rfl
theorem bxS_get (H : AH) (s : SD) : (bxS H s).get H.n = some ⟨[.int .i64 s.tr, .int .i64 s.nu, s.w, .bool s.bad], 1, false, false⟩ := box_get _ _ _
theorem bxS_st (H : AH) (s : SD) (hw : one s.w = true) : pSt 4 (.pointer (some ⟨H.n, 0, none⟩)) (.agg #[.int .i64 s.tr, .int .i64 s.nu, s.w, .bool s.bad]) (H.push ⟨[.int .i64 0, .int .i64 0, .slice none 0 0, .bool false], 1, false, false⟩) = some (undef, bxS H s) :=
  bx4_st (by rw [AH.get_push, if_pos rfl]) rfl rfl hw rfl

theorem scheck_l0 (v : Value) (rest : List SD) : ∀ (pre : List SD) (H : AH) (i N : Int) (Q : XExit → Fr → AH → Prop), SDs H v (pre ++ rest) → (∀ s ∈ rest, SdOk s) → pre.length + rest.length ≤ 1000 → i = (pre.length : Int) → N = ((pre ++ rest).length : Int) →
    (∀ H', HExt H H' → Q (.exit 0) [(16, v), (17, .int .i64 N), (18, .int .i64 N), (19, .bool false)] H') →
    Run Try.prog tab (.loop xsect_Check_l0) [(16, v), (17, .int .i64 N), (18, .int .i64 i)] H Q := by
  induction rest with
  | nil =>
    intro pre H i N Q hv hok hl hi hN hq
    rw [run_loop]
    generalize hL : XCode.loop xsect_Check_l0 = L
    have hiN : i = N := by simp at hN; omega
    subst hiN
    have hf : ¬ i < i := by omega
    simp only [xsect_Check_l0, ofArgs, run_seq, run_block, run_ops, run_skip, run_exit, run_ret, thenQ_normal, thenQ_exit, thenQ_ret, blockQ_normal, blockQ_exit, blockQ_ret, retQ_ret, retQ_normal, ops_nil, ops_none, got_some, ops_wT, ops_wTn, ops_wF, ops_wFn, ops_wU, dops_wT, dops_wTn, dops_wF, dops_wFn, dops_wU, run_condT, run_condF, alt2_int, altB_bool, altI_int, altBB_bool, v_min, v_max, v_not, v_neg, optEv_none, optEv_some, isSome'_none, isSome'_some, pExt0, pExt1, pExt2, Bool.false_and, Bool.true_and, Bool.not_true, Bool.not_false, cond_true, cond_false, dops_nil, dops_none, xval_call, v_mov, v_bin, v_len, v_ext, v_idxA, v_ld, v_st, v_app, v_appN, v_cvs, v_bs1, pBs1, v_slc, v_conv, v_fld, v_fldA, v_new, v_box, v_mks, v_copy, v_isnil, v_nilck, v_pick, ev, evs_nil, evs_cons, fr_get_cons, fr_put_nil, fr_put_cons, fr_put_some, fr_put_none, fr_keep_nil, fr_keep_cons, fr_has_nil, fr_has_cons, Option.bind_some, Option.map_some, xbin, ibin, xresult_eq, xress_nil, xress_tmp, resV, ex_some, if_true, if_false, ite_true, ite_false, reduceIte, reduceCtorEq, Nat.reduceEqDiff, Nat.reduceLT, Nat.reduceLeDiff, Int.reduceLT, Int.reduceLE, Nat.zero_add, Nat.reduceAdd, Bool.false_eq_true, decide_eq_true_eq, decide_eq_false_iff_not, true_implies, false_implies, and_true, true_and, hf, decide_false]
    exact hq H (HExt.refl H)
  | cons s rest ih =>
    intro pre H i N Q hv hok hl hi hN hq
    rw [run_loop]
    generalize hL : XCode.loop xsect_Check_l0 = L
    simp only [List.length_cons] at hl
    have hlt : i < N := by simp at hN; omega
    have e1 := sds_idx hv i hi
    have e2 := sds_ld hv
    have hb := hv.2 s (by simp)
    obtain ⟨o1, o2⟩ := slice_one hb
    have st := bxS_st H s o1
    have hx := bxS_ext H s
    have g := bxS_get H s
    have l0 := bx4_0 g
    have l1 := bx4_1 g
    have l2 := bx4_2 g
    obtain ⟨s1, s2, s3, s4, s5, s6⟩ := hok s (by simp)
    have e6 := byts_len' (Sl.ext hx hb : Byts _ s.w s.bs)
    have c1 : ¬ s.tr < 0 := by omega
    have c2 : ¬ s.tr > 255 := by omega
    have c3 : ¬ s.nu < 0 := by omega
    have c4 : ¬ s.nu > 255 := by omega
    have c5 : ((s.bs.length : Int) != 128) = false := by rw [s5]; rfl
    have w3 := wrI (i + 1) (by omega) (by omega)
    simp only [xsect_Check_l0, ofArgs, run_seq, run_block, run_ops, run_skip, run_exit, run_ret, thenQ_normal, thenQ_exit, thenQ_ret, blockQ_normal, blockQ_exit, blockQ_ret, retQ_ret, retQ_normal, ops_nil, ops_none, got_some, ops_wT, ops_wTn, ops_wF, ops_wFn, ops_wU, dops_wT, dops_wTn, dops_wF, dops_wFn, dops_wU, run_condT, run_condF, alt2_int, altB_bool, altI_int, altBB_bool, v_min, v_max, v_not, v_neg, optEv_none, optEv_some, isSome'_none, isSome'_some, pExt0, pExt1, pExt2, Bool.false_and, Bool.true_and, Bool.not_true, Bool.not_false, cond_true, cond_false, dops_nil, dops_none, xval_call, v_mov, v_bin, v_len, v_ext, v_idxA, v_ld, v_st, v_app, v_appN, v_cvs, v_bs1, pBs1, v_slc, v_conv, v_fld, v_fldA, v_new, v_box, v_mks, v_copy, v_isnil, v_nilck, v_pick, ev, evs_nil, evs_cons, fr_get_cons, fr_put_nil, fr_put_cons, fr_put_some, fr_put_none, fr_keep_nil, fr_keep_cons, fr_has_nil, fr_has_cons, Option.bind_some, Option.map_some, xbin, ibin, xresult_eq, xress_nil, xress_tmp, resV, ex_some, if_true, if_false, ite_true, ite_false, reduceIte, reduceCtorEq, Nat.reduceEqDiff, Nat.reduceLT, Nat.reduceLeDiff, Int.reduceLT, Int.reduceLE, Nat.zero_add, Nat.reduceAdd, Bool.false_eq_true, decide_eq_true_eq, decide_eq_false_iff_not, true_implies, false_implies, and_true, true_and, hlt, decide_true, e1, e2, st, fldA0, fldA1, fldA2, l0, l1, l2, e6, c1, c2, c3, c4, c5, decide_false, w3]
    subst hL
    refine ih (pre ++ [s]) _ (i + 1) N Q (by rw [← List.append_cons]; exact hv.ext hx) (fun y hy => hok y (by simp [hy])) (by simp; omega) (by simp; omega) (by simpa using hN) ?_
    intro H2 x2
    exact hq H2 (hx.trans x2)
theorem scheck_ok (tr : Int) (h0 : 0 ≤ tr) (h1 : tr < 20) (v : Value) (l : List SD) (H : AH) (Q : Value → AH → Prop) (hv : SDs H v l) (hok : ∀ s ∈ l, SdOk s) (hl : l.length ≤ 12) (hq : ∀ H', HExt H H' → Q (.int .i64 0) H') : Got (xc Try.prog tab 90 [.int .i64 tr, v] H) Q := by
  refine got_call (res := [.tmp 4]) rfl ?_
  have e0 := hv.1.len_ok
  have c1 : ¬ tr < 0 := by omega
  have c2 : ¬ tr ≥ 20 := by omega
  have c3 : ¬ (l.length : Int) > 12 := by omega
  simp only [ofArgs, run_seq, run_block, run_ops, run_skip, run_exit, run_ret, thenQ_normal, thenQ_exit, thenQ_ret, blockQ_normal, blockQ_exit, blockQ_ret, retQ_ret, retQ_normal, ops_nil, ops_none, got_some, ops_wT, ops_wTn, ops_wF, ops_wFn, ops_wU, dops_wT, dops_wTn, dops_wF, dops_wFn, dops_wU, run_condT, run_condF, alt2_int, altB_bool, altI_int, altBB_bool, v_min, v_max, v_not, v_neg, optEv_none, optEv_some, isSome'_none, isSome'_some, pExt0, pExt1, pExt2, Bool.false_and, Bool.true_and, Bool.not_true, Bool.not_false, cond_true, cond_false, dops_nil, dops_none, xval_call, v_mov, v_bin, v_len, v_ext, v_idxA, v_ld, v_st, v_app, v_appN, v_cvs, v_bs1, pBs1, v_slc, v_conv, v_fld, v_fldA, v_new, v_box, v_mks, v_copy, v_isnil, v_nilck, v_pick, ev, evs_nil, evs_cons, fr_get_cons, fr_put_nil, fr_put_cons, fr_put_some, fr_put_none, fr_keep_nil, fr_keep_cons, fr_has_nil, fr_has_cons, Option.bind_some, Option.map_some, xbin, ibin, xresult_eq, xress_nil, xress_tmp, resV, ex_some, if_true, if_false, ite_true, ite_false, reduceIte, reduceCtorEq, Nat.reduceEqDiff, Nat.reduceLT, Nat.reduceLeDiff, Int.reduceLT, Int.reduceLE, Nat.zero_add, Nat.reduceAdd, Bool.false_eq_true, decide_eq_true_eq, decide_eq_false_iff_not, true_implies, false_implies, and_true, true_and, e0, c1, c2, c3, decide_false]
  refine scheck_l0 v l [] H _ _ _ (by simpa using hv) hok (by simp; omega) (by simp) (by simp) ?_
  intro H' x
  simp only [ofArgs, run_seq, run_block, run_ops, run_skip, run_exit, run_ret, thenQ_normal, thenQ_exit, thenQ_ret, blockQ_normal, blockQ_exit, blockQ_ret, retQ_ret, retQ_normal, ops_nil, ops_none, got_some, ops_wT, ops_wTn, ops_wF, ops_wFn, ops_wU, dops_wT, dops_wTn, dops_wF, dops_wFn, dops_wU, run_condT, run_condF, alt2_int, altB_bool, altI_int, altBB_bool, v_min, v_max, v_not, v_neg, optEv_none, optEv_some, isSome'_none, isSome'_some, pExt0, pExt1, pExt2, Bool.false_and, Bool.true_and, Bool.not_true, Bool.not_false, cond_true, cond_false, dops_nil, dops_none, xval_call, v_mov, v_bin, v_len, v_ext, v_idxA, v_ld, v_st, v_app, v_appN, v_cvs, v_bs1, pBs1, v_slc, v_conv, v_fld, v_fldA, v_new, v_box, v_mks, v_copy, v_isnil, v_nilck, v_pick, ev, evs_nil, evs_cons, fr_get_cons, fr_put_nil, fr_put_cons, fr_put_some, fr_put_none, fr_keep_nil, fr_keep_cons, fr_has_nil, fr_has_cons, Option.bind_some, Option.map_some, xbin, ibin, xresult_eq, xress_nil, xress_tmp, resV, ex_some, if_true, if_false, ite_true, ite_false, reduceIte, reduceCtorEq, Nat.reduceEqDiff, Nat.reduceLT, Nat.reduceLeDiff, Int.reduceLT, Int.reduceLE, Nat.zero_add, Nat.reduceAdd, Bool.false_eq_true, decide_eq_true_eq, decide_eq_false_iff_not, true_implies, false_implies, and_true, true_and]
  exact hq H' x

/-! ### gaps -/
theorem gap_l0 (n0 : Nat) (v : Value) (r : Nat) : ∀ (pre : List Int) (H : AH) (i N : Int) (Q : XExit → Fr → AH → Prop), OwnB n0 H v (pre ++ List.replicate r 0) → n0 ≤ H.n → pre.length + r ≤ 1000 → i = (pre.length : Int) → N = ((pre.length + r : Nat) : Int) →
    (∀ H', OwnB n0 H' v (pre ++ List.replicate r 78) → Keep n0 H H' → Q (.exit 0) [(1, v), (5, .int .i64 N), (6, .int .i64 N), (7, .bool false)] H') →
    Run Try.prog tab (.loop xsect_gap_l0) [(1, v), (5, .int .i64 N), (6, .int .i64 i)] H Q := by
  induction r with
  | zero =>
    intro pre H i N Q ho hn hl hi hN hq
    rw [run_loop]
    generalize hL : XCode.loop xsect_gap_l0 = L
    have hiN : i = N := by omega
    subst hiN
    have hf : ¬ i < i := by omega
    simp only [xsect_gap_l0, ofArgs, run_seq, run_block, run_ops, run_skip, run_exit, run_ret, thenQ_normal, thenQ_exit, thenQ_ret, blockQ_normal, blockQ_exit, blockQ_ret, retQ_ret, retQ_normal, ops_nil, ops_none, got_some, ops_wT, ops_wTn, ops_wF, ops_wFn, ops_wU, dops_wT, dops_wTn, dops_wF, dops_wFn, dops_wU, run_condT, run_condF, alt2_int, altB_bool, altI_int, altBB_bool, v_min, v_max, v_not, v_neg, optEv_none, optEv_some, isSome'_none, isSome'_some, pExt0, pExt1, pExt2, Bool.false_and, Bool.true_and, Bool.not_true, Bool.not_false, cond_true, cond_false, dops_nil, dops_none, xval_call, v_mov, v_bin, v_len, v_ext, v_idxA, v_ld, v_st, v_app, v_appN, v_cvs, v_bs1, pBs1, v_slc, v_conv, v_fld, v_fldA, v_new, v_box, v_mks, v_copy, v_isnil, v_nilck, v_pick, ev, evs_nil, evs_cons, fr_get_cons, fr_put_nil, fr_put_cons, fr_put_some, fr_put_none, fr_keep_nil, fr_keep_cons, fr_has_nil, fr_has_cons, Option.bind_some, Option.map_some, xbin, ibin, xresult_eq, xress_nil, xress_tmp, resV, ex_some, if_true, if_false, ite_true, ite_false, reduceIte, reduceCtorEq, Nat.reduceEqDiff, Nat.reduceLT, Nat.reduceLeDiff, Int.reduceLT, Int.reduceLE, Nat.zero_add, Nat.reduceAdd, Bool.false_eq_true, decide_eq_true_eq, decide_eq_false_iff_not, true_implies, false_implies, and_true, true_and, hf, decide_false]
    exact hq H ho (.refl _ _)
  | succ r ih =>
    intro pre H i N Q ho hn hl hi hN hq
    rw [run_loop]
    generalize hL : XCode.loop xsect_gap_l0 = L
    have hlt : i < N := by omega
    have e3 := pIdx_one ho.1 .i64 i pre.length hi (by simp)
    have w4 := wrI (i + 1) (by omega) (by omega)
    simp only [xsect_gap_l0, ofArgs, run_seq, run_block, run_ops, run_skip, run_exit, run_ret, thenQ_normal, thenQ_exit, thenQ_ret, blockQ_normal, blockQ_exit, blockQ_ret, retQ_ret, retQ_normal, ops_nil, ops_none, got_some, ops_wT, ops_wTn, ops_wF, ops_wFn, ops_wU, dops_wT, dops_wTn, dops_wF, dops_wFn, dops_wU, run_condT, run_condF, alt2_int, altB_bool, altI_int, altBB_bool, v_min, v_max, v_not, v_neg, optEv_none, optEv_some, isSome'_none, isSome'_some, pExt0, pExt1, pExt2, Bool.false_and, Bool.true_and, Bool.not_true, Bool.not_false, cond_true, cond_false, dops_nil, dops_none, xval_call, v_mov, v_bin, v_len, v_ext, v_idxA, v_ld, v_st, v_app, v_appN, v_cvs, v_bs1, pBs1, v_slc, v_conv, v_fld, v_fldA, v_new, v_box, v_mks, v_copy, v_isnil, v_nilck, v_pick, ev, evs_nil, evs_cons, fr_get_cons, fr_put_nil, fr_put_cons, fr_put_some, fr_put_none, fr_keep_nil, fr_keep_cons, fr_has_nil, fr_has_cons, Option.bind_some, Option.map_some, xbin, ibin, xresult_eq, xress_nil, xress_tmp, resV, ex_some, if_true, if_false, ite_true, ite_false, reduceIte, reduceCtorEq, Nat.reduceEqDiff, Nat.reduceLT, Nat.reduceLeDiff, Int.reduceLT, Int.reduceLE, Nat.zero_add, Nat.reduceAdd, Bool.false_eq_true, decide_eq_true_eq, decide_eq_false_iff_not, true_implies, false_implies, and_true, true_and, hlt, decide_true, e3]
    refine pSt_own ho (by simp) rfl rfl ?_
    intro H4 o4 s4
    have k4 := s4.keep ho hn
    have o5 : OwnB n0 H4 v ((pre ++ [78]) ++ List.replicate r 0) := by
      have el : ((pre ++ [78]) ++ List.replicate r 0).length = (pre ++ List.replicate (r + 1) 0).length := by simp
      unfold OwnB
      rw [el]
      have em : ((pre ++ [78]) ++ List.replicate r 0).map (Value.int .u8) = ((pre ++ List.replicate (r + 1) 0).map (Value.int .u8)).set pre.length (.int .u8 78) := by simp [List.replicate_succ]
      rw [em]; exact o4
    simp only [ofArgs, run_seq, run_block, run_ops, run_skip, run_exit, run_ret, thenQ_normal, thenQ_exit, thenQ_ret, blockQ_normal, blockQ_exit, blockQ_ret, retQ_ret, retQ_normal, ops_nil, ops_none, got_some, ops_wT, ops_wTn, ops_wF, ops_wFn, ops_wU, dops_wT, dops_wTn, dops_wF, dops_wFn, dops_wU, run_condT, run_condF, alt2_int, altB_bool, altI_int, altBB_bool, v_min, v_max, v_not, v_neg, optEv_none, optEv_some, isSome'_none, isSome'_some, pExt0, pExt1, pExt2, Bool.false_and, Bool.true_and, Bool.not_true, Bool.not_false, cond_true, cond_false, dops_nil, dops_none, xval_call, v_mov, v_bin, v_len, v_ext, v_idxA, v_ld, v_st, v_app, v_appN, v_cvs, v_bs1, pBs1, v_slc, v_conv, v_fld, v_fldA, v_new, v_box, v_mks, v_copy, v_isnil, v_nilck, v_pick, ev, evs_nil, evs_cons, fr_get_cons, fr_put_nil, fr_put_cons, fr_put_some, fr_put_none, fr_keep_nil, fr_keep_cons, fr_has_nil, fr_has_cons, Option.bind_some, Option.map_some, xbin, ibin, xresult_eq, xress_nil, xress_tmp, resV, ex_some, if_true, if_false, ite_true, ite_false, reduceIte, reduceCtorEq, Nat.reduceEqDiff, Nat.reduceLT, Nat.reduceLeDiff, Int.reduceLT, Int.reduceLE, Nat.zero_add, Nat.reduceAdd, Bool.false_eq_true, decide_eq_true_eq, decide_eq_false_iff_not, true_implies, false_implies, and_true, true_and, w4]
    subst hL
    refine ih (pre ++ [78]) H4 (i + 1) N Q o5 (by have := k4.1; omega) (by simp; omega) (by simp; omega) (by simp; omega) ?_
    intro H5 o6 k5
    exact hq H5 (by simpa [List.replicate_succ] using o6) (k4.trans k5)
def gp : List Int := [78, 78, 78, 78, 78, 78, 78, 78]
theorem gp_b8 : B8 gp := by unfold gp; intro b hb; simp at hb; omega
theorem gap_ok (H : AH) (Q : Value → AH → Prop) (hq : ∀ v H', OwnB H.n H' v gp → HExt H H' → Q v H') : Got (xc Try.prog tab 91 [] H) Q := by
  refine got_call (res := [.tmp 0]) rfl ?_
  have hmk := pMks_ok (.int .u8 0) 8 (by omega) .i64 H 8 rfl
  have x2 := hext_push H ⟨rep 8 [.int .u8 0], 1, false, false⟩
  have ob : OwnB H.n (H.push ⟨rep 8 [.int .u8 0], 1, false, false⟩) (.slice (some ⟨H.n, 0, none⟩) 8 8) ([] ++ List.replicate 8 0) := Own.pushed H (rep 8 [.int .u8 0]) 1 8 false rfl
  have hlen : ∀ H0, pLen (.slice (some ⟨H.n, 0, none⟩) 8 8) H0 = some (.int .i64 8, H0) := fun _ => rfl
  simp only [ofArgs, run_seq, run_block, run_ops, run_skip, run_exit, run_ret, thenQ_normal, thenQ_exit, thenQ_ret, blockQ_normal, blockQ_exit, blockQ_ret, retQ_ret, retQ_normal, ops_nil, ops_none, got_some, ops_wT, ops_wTn, ops_wF, ops_wFn, ops_wU, dops_wT, dops_wTn, dops_wF, dops_wFn, dops_wU, run_condT, run_condF, alt2_int, altB_bool, altI_int, altBB_bool, v_min, v_max, v_not, v_neg, optEv_none, optEv_some, isSome'_none, isSome'_some, pExt0, pExt1, pExt2, Bool.false_and, Bool.true_and, Bool.not_true, Bool.not_false, cond_true, cond_false, dops_nil, dops_none, xval_call, v_mov, v_bin, v_len, v_ext, v_idxA, v_ld, v_st, v_app, v_appN, v_cvs, v_bs1, pBs1, v_slc, v_conv, v_fld, v_fldA, v_new, v_box, v_mks, v_copy, v_isnil, v_nilck, v_pick, ev, evs_nil, evs_cons, fr_get_cons, fr_put_nil, fr_put_cons, fr_put_some, fr_put_none, fr_keep_nil, fr_keep_cons, fr_has_nil, fr_has_cons, Option.bind_some, Option.map_some, xbin, ibin, xresult_eq, xress_nil, xress_tmp, resV, ex_some, if_true, if_false, ite_true, ite_false, reduceIte, reduceCtorEq, Nat.reduceEqDiff, Nat.reduceLT, Nat.reduceLeDiff, Int.reduceLT, Int.reduceLE, Nat.zero_add, Nat.reduceAdd, Bool.false_eq_true, decide_eq_true_eq, decide_eq_false_iff_not, true_implies, false_implies, and_true, true_and, hmk, hlen]
  refine gap_l0 H.n (.slice (some ⟨H.n, 0, none⟩) 8 8) 8 [] _ 0 8 _ ob (by simp) (by simp) rfl rfl ?_
  intro H' o k
  simp only [ofArgs, run_seq, run_block, run_ops, run_skip, run_exit, run_ret, thenQ_normal, thenQ_exit, thenQ_ret, blockQ_normal, blockQ_exit, blockQ_ret, retQ_ret, retQ_normal, ops_nil, ops_none, got_some, ops_wT, ops_wTn, ops_wF, ops_wFn, ops_wU, dops_wT, dops_wTn, dops_wF, dops_wFn, dops_wU, run_condT, run_condF, alt2_int, altB_bool, altI_int, altBB_bool, v_min, v_max, v_not, v_neg, optEv_none, optEv_some, isSome'_none, isSome'_some, pExt0, pExt1, pExt2, Bool.false_and, Bool.true_and, Bool.not_true, Bool.not_false, cond_true, cond_false, dops_nil, dops_none, xval_call, v_mov, v_bin, v_len, v_ext, v_idxA, v_ld, v_st, v_app, v_appN, v_cvs, v_bs1, pBs1, v_slc, v_conv, v_fld, v_fldA, v_new, v_box, v_mks, v_copy, v_isnil, v_nilck, v_pick, ev, evs_nil, evs_cons, fr_get_cons, fr_put_nil, fr_put_cons, fr_put_some, fr_put_none, fr_keep_nil, fr_keep_cons, fr_has_nil, fr_has_cons, Option.bind_some, Option.map_some, xbin, ibin, xresult_eq, xress_nil, xress_tmp, resV, ex_some, if_true, if_false, ite_true, ite_false, reduceIte, reduceCtorEq, Nat.reduceEqDiff, Nat.reduceLT, Nat.reduceLeDiff, Int.reduceLT, Int.reduceLE, Nat.zero_add, Nat.reduceAdd, Bool.false_eq_true, decide_eq_true_eq, decide_eq_false_iff_not, true_implies, false_implies, and_true, true_and]
  exact hq _ H' o ⟨by have := k.1; have := x2.1; omega, fun b hb => (k.2 b hb).trans (x2.2 b hb)⟩
end Go.Proofs.Ytejedmocjdcdgaa.D
