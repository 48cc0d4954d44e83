/- What functions that the law reaches compute, on a heap of the run's own: the conditions stand in each theorem. -/
import Derived.Test.YtkhjmmidaihbhaaMfA
set_option linter.unusedSimpArgs false
set_option linter.unusedVariables false
namespace Go.Proofs.Ytkhjmmidaihbhaa.D
open Go Go.Det

theorem put_w (n0 : Nat) (H : AH) (W : Nat) (q : List Bool) (last : Bool) (c : Nat) (hc : c < 256) (mark : Bool) (Q : Value → AH → Prop) (hw : Wr n0 H W q last) (hl : q.length ≤ 90000) (hq : ∀ H', Wr n0 H' W (q ++ msym c mark 8 last) (c.testBit 0) → KeepB n0 W H H' → Q (.tuple #[]) H') :
    Got (xc Try.prog tab 81 [.pointer (some ⟨W, 0, none⟩), .int .u8 c, .bool mark] H) Q := by
  refine got_call (res := []) rfl ?_
  simp only [ofArgs, run_seq, run_block, run_ops, run_skip, run_exit, run_ret, thenQ_normal, thenQ_exit, thenQ_ret, blockQ_normal, blockQ_exit, blockQ_ret, retQ_ret, retQ_normal, ops_nil, ops_none, got_some, ops_wT, ops_wTn, ops_wF, ops_wFn, ops_wU, dops_wT, dops_wTn, dops_wF, dops_wFn, dops_wU, run_condT, run_condF, alt2_int, altB_bool, altI_int, altBB_bool, v_min, v_max, v_not, v_neg, optEv_none, optEv_some, isSome'_none, isSome'_some, pExt0, pExt1, pExt2, Bool.false_and, Bool.true_and, Bool.not_true, Bool.not_false, cond_true, cond_false, dops_nil, dops_none, xval_call, v_mov, v_bin, v_len, v_ext, v_idxA, v_ld, v_st, v_app, v_appN, v_cvs, v_bs1, pBs1, v_slc, v_conv, v_fld, v_fldA, v_new, v_box, v_mks, v_copy, v_isnil, v_nilck, v_pick, ev, evs_nil, evs_cons, fr_get_cons, fr_put_nil, fr_put_cons, fr_put_some, fr_put_none, fr_keep_nil, fr_keep_cons, fr_has_nil, fr_has_cons, Option.bind_some, Option.map_some, xbin, ibin, xresult_eq, xress_nil, xress_tmp, resV, ex_some, if_true, if_false, ite_true, ite_false, reduceIte, reduceCtorEq, Nat.reduceEqDiff, Nat.reduceLT, Nat.reduceLeDiff, Int.reduceLT, Int.reduceLE, Nat.zero_add, Nat.reduceAdd, Bool.false_eq_true, decide_eq_true_eq, decide_eq_false_iff_not, true_implies, false_implies, and_true, true_and]
  refine put_l0 n0 W c hc mark 8 q last H 0 _ hw (by omega) (by omega) (by omega) ?_
  intro H' w' k'
  simp only [ofArgs, run_seq, run_block, run_ops, run_skip, run_exit, run_ret, thenQ_normal, thenQ_exit, thenQ_ret, blockQ_normal, blockQ_exit, blockQ_ret, retQ_ret, retQ_normal, ops_nil, ops_none, got_some, ops_wT, ops_wTn, ops_wF, ops_wFn, ops_wU, dops_wT, dops_wTn, dops_wF, dops_wFn, dops_wU, run_condT, run_condF, alt2_int, altB_bool, altI_int, altBB_bool, v_min, v_max, v_not, v_neg, optEv_none, optEv_some, isSome'_none, isSome'_some, pExt0, pExt1, pExt2, Bool.false_and, Bool.true_and, Bool.not_true, Bool.not_false, cond_true, cond_false, dops_nil, dops_none, xval_call, v_mov, v_bin, v_len, v_ext, v_idxA, v_ld, v_st, v_app, v_appN, v_cvs, v_bs1, pBs1, v_slc, v_conv, v_fld, v_fldA, v_new, v_box, v_mks, v_copy, v_isnil, v_nilck, v_pick, ev, evs_nil, evs_cons, fr_get_cons, fr_put_nil, fr_put_cons, fr_put_some, fr_put_none, fr_keep_nil, fr_keep_cons, fr_has_nil, fr_has_cons, Option.bind_some, Option.map_some, xbin, ibin, xresult_eq, xress_nil, xress_tmp, resV, ex_some, if_true, if_false, ite_true, ite_false, reduceIte, reduceCtorEq, Nat.reduceEqDiff, Nat.reduceLT, Nat.reduceLeDiff, Int.reduceLT, Int.reduceLE, Nat.zero_add, Nat.reduceAdd, Bool.false_eq_true, decide_eq_true_eq, decide_eq_false_iff_not, true_implies, false_implies, and_true, true_and]
  exact hq H' (by simpa using w') k'

def syms : List Int → Bool → List Bool
  | [], _ => []
  | c :: l, last => msym c.toNat false 8 last ++ syms l (c.toNat.testBit 0)
def lastOf : List Int → Bool → Bool
  | [], last => last
  | c :: l, _ => lastOf l (c.toNat.testBit 0)
theorem syms_len (l : List Int) : ∀ last, (syms l last).length = 16 * l.length := by
  induction l with
  | nil => intro last; rfl
  | cons c l ih => intro last; simp [syms, msym_len, ih]; omega
/-- all places of a part alone, and the closing bit -/
def full (mark : Bool) (a : List Int) : List Bool := (if mark then msym 161 true 8 true else []) ++ syms a true ++ [false, true]
theorem full_len (mark : Bool) (a : List Int) : (full mark a).length = 2 * (8 * ((if mark then 1 else 0) + a.length) + 1) := by
  unfold full; cases mark <;> simp [msym_len, syms_len] <;> omega

/-! ### no length is above 4 -/
theorem gaps_app (q m : List Bool) : gaps (q ++ m) = m.foldl plc (gaps q) := by unfold gaps; rw [List.foldl_append]
def GB (q : List Bool) (last : Bool) : Prop := (∀ g ∈ (gaps q).1, g ≤ 4) ∧ (gaps q).2 ≤ 2 ∧ (last = true → (gaps q).2 = 0)
theorem gb_bit (q : List Bool) (last bit : Bool) (h : GB q last) : GB (q ++ [(!bit && !last), bit]) bit := by
  obtain ⟨h1, h2, h3⟩ := h
  unfold GB
  rw [gaps_app]
  generalize gaps q = s at h1 h2 h3
  obtain ⟨l, g⟩ := s
  simp only [] at h1 h2 h3
  cases bit <;> cases last
  · simp [plc]
    intro a ha
    rcases ha with ha | ha
    · exact h1 a ha
    · omega
  · have := h3 rfl
    subst this
    simp [plc]
    exact h1
  · simp [plc]
    intro a ha
    rcases ha with ha | ha
    · exact h1 a ha
    · omega
  · simp [plc]
    intro a ha
    rcases ha with ha | ha
    · exact h1 a ha
    · omega
theorem gb_sym (c : Nat) (r : Nat) : ∀ q last, GB q last → GB (q ++ msym c false r last) (if r = 0 then last else c.testBit 0) := by
  induction r with
  | zero => intro q last h; simpa [msym] using h
  | succ r ih =>
    intro q last h
    have h1 := ih _ _ (gb_bit q last (c.testBit r) h)
    have e : q ++ msym c false (r + 1) last = q ++ [(!(c.testBit r) && !last), c.testBit r] ++ msym c false r (c.testBit r) := by simp [msym]
    rw [e, if_neg (by omega)]
    by_cases hr : r = 0
    · subst hr; simpa using h1
    · rw [if_neg hr] at h1; exact h1
theorem gb_syms (a : List Int) : ∀ q last, GB q last → GB (q ++ syms a last) (lastOf a last) := by
  induction a with
  | nil => intro q last h; simpa [syms, lastOf] using h
  | cons c a ih =>
    intro q last h
    have h1 := ih _ _ (by simpa using gb_sym c.toNat 8 q last h)
    simpa [syms, lastOf] using h1
theorem gb_mark : GB (msym 161 true 8 true) true := by
  have e : gaps (msym 161 true 8 true) = ([2, 4, 3, 4, 3], 0) := by decide
  unfold GB
  rw [e]
  simp
theorem full_gb (mark : Bool) (a : List Int) : (∀ g ∈ (gaps (full mark a)).1, 1 ≤ g ∧ g ≤ 4) ∧ (gaps (full mark a)).2 = 0 := by
  have h0 : GB (if mark then msym 161 true 8 true else []) true := by
    cases mark
    · simp [GB, gaps]
    · exact gb_mark
  have h1 := gb_syms a _ _ h0
  have hp := gaps_pos (full mark a)
  have h2 : ∀ g ∈ (gaps (full mark a)).1, g ≤ 4 := by
    unfold full
    rw [gaps_app]
    generalize (if mark then msym 161 true 8 true else []) ++ syms a true = q at h1
    obtain ⟨g1, g2, g3⟩ := h1
    generalize gaps q = s at g1 g2 g3
    obtain ⟨l, g⟩ := s
    simp [plc] at g1 g2 ⊢
    intro b hb
    rcases hb with hb | hb
    · exact g1 b hb
    · omega
  refine ⟨fun g hg => ⟨hp g hg, h2 g hg⟩, ?_⟩
  unfold full
  rw [gaps_app]
  simp [plc]

/-! ### a list of one part -/
theorem ld_part {H : AH} {vp m va : Value} (h : Sl H 2 vp 1 [m, va]) : pIdx 2 vp (.int .i64 0) H = some (ptrAt vp 0, H) ∧ pLd (some 2) (ptrAt vp 0) H = some (.agg #[m, va], H) := by
  refine ⟨by have := pIdx_ok h .i64 0 0 rfl (by omega); simpa using this, ?_⟩
  obtain ⟨B, o, c, blk, rfl, h1, h2, h3, h4, h5, h6⟩ := h.live (by omega)
  show ((H.get B).bind fun blk => (partV blk.cells (o + 0) (some 2)).map fun v => (v, H)) = _
  rw [h2]
  have hle : Nat.ble (o + 0 + 2) blk.cells.length = true := by rw [Nat.ble_eq]; omega
  have e : ((blk.cells.drop o).take 2) = [m, va] := by simpa using h6
  simp only [Option.bind_some, partV, hle, cond_true, Nat.add_zero, e, Option.map_some]
theorem st2 {H : AH} {B : Nat} {a b a' b' : Value} (h : H.get B = some ⟨[a, b], 1, false, false⟩) (h1 : one a' = true) (h2 : one b' = true) : pSt 2 (.pointer (some ⟨B, 0, none⟩)) (.agg #[a', b']) H = some (undef, H.set B ⟨[a', b'], 1, false, false⟩) := by
  have e : vcells (.agg #[a', b']) = [a', b'] := rfl
  unfold pSt
  simp only [h, Option.bind_some, e, List.all_cons, List.all_nil, h1, h2]
  rfl
theorem ld2_0 {H : AH} {B : Nat} {a b : Value} (h : H.get B = some ⟨[a, b], 1, false, false⟩) : pLd none (.pointer (some ⟨B, 0, none⟩)) H = some (a, H) := by unfold pLd; simp only [h]; rfl
theorem ld2_1 {H : AH} {B : Nat} {a b : Value} (h : H.get B = some ⟨[a, b], 1, false, false⟩) : pLd none (.pointer (some ⟨B, 1, none⟩)) H = some (b, H) := by unfold pLd; simp only [h]; rfl
/-- a struct of two is loaded into a box of its own -/
theorem set_ext (H : AH) (x y : Blk) : HExt H ((H.push x).set H.n y) := ⟨by show _ ≤ H.n + 1; omega, fun b hb => by rw [AH.get_set, if_neg (by omega), AH.get_push, if_neg (by omega)]⟩

theorem size1_ok (mark : Bool) (a : List Int) (vp va : Value) (H : AH) (Q : Value → AH → Prop) (hp : Sl H 2 vp 1 [.bool mark, va]) (ha : Byts H va a) (hl : a.length ≤ 2000) (hq : ∀ H', HExt H H' → Q (.int .i64 ((a.length : Int) + (if mark then 1 else 0))) H') :
    Got (xc Try.prog tab 80 [vp] H) Q := by
  refine got_call (res := [.tmp 2]) rfl ?_
  obtain ⟨e1, e2⟩ := ld_part hp
  have e0 := pLen_ok hp
  obtain ⟨o1, o2⟩ := sl_slice ha
  have g1 : (H.push ⟨[.bool false, .slice none 0 0], 1, false, false⟩).get H.n = some ⟨[.bool false, .slice none 0 0], 1, false, false⟩ := by rw [AH.get_push, if_pos rfl]
  have e3 := st2 (a' := .bool mark) (b' := va) g1 rfl o1
  have g2 : ((H.push ⟨[.bool false, .slice none 0 0], 1, false, false⟩).set H.n ⟨[.bool mark, va], 1, false, false⟩).get H.n = some ⟨[.bool mark, va], 1, false, false⟩ := by rw [AH.get_set, if_pos rfl]
  have hx := set_ext H ⟨[.bool false, .slice none 0 0], 1, false, false⟩ ⟨[.bool mark, va], 1, false, false⟩
  have e4 := ld2_0 g2
  have e5 := ld2_1 g2
  have e6 := byts_len' (Sl.ext hx ha : Byts _ va a)
  have w1 := wrI (0 + (a.length : Int)) (by omega) (by omega)
  have w2 := wrI (0 + (a.length : Int) + 1) (by omega) (by omega)
  have c1 : ¬ (0 + (a.length : Int) > 2400) := by omega
  have c2 : ¬ (0 + (a.length : Int) + 1 > 2400) := by omega
  have n1 : ((1 : Nat) : Int) = 1 := rfl
  have w3 : IntKind.i64.wrap (0 + 1) = 1 := rfl
  simp only [ofArgs, run_seq, run_block, run_ops, run_skip, run_exit, run_ret, thenQ_normal, thenQ_exit, thenQ_ret, blockQ_normal, blockQ_exit, blockQ_ret, retQ_ret, retQ_normal, ops_nil, ops_none, got_some, ops_wT, ops_wTn, ops_wF, ops_wFn, ops_wU, dops_wT, dops_wTn, dops_wF, dops_wFn, dops_wU, run_condT, run_condF, alt2_int, altB_bool, altI_int, altBB_bool, v_min, v_max, v_not, v_neg, optEv_none, optEv_some, isSome'_none, isSome'_some, pExt0, pExt1, pExt2, Bool.false_and, Bool.true_and, Bool.not_true, Bool.not_false, cond_true, cond_false, dops_nil, dops_none, xval_call, v_mov, v_bin, v_len, v_ext, v_idxA, v_ld, v_st, v_app, v_appN, v_cvs, v_bs1, pBs1, v_slc, v_conv, v_fld, v_fldA, v_new, v_box, v_mks, v_copy, v_isnil, v_nilck, v_pick, ev, evs_nil, evs_cons, fr_get_cons, fr_put_nil, fr_put_cons, fr_put_some, fr_put_none, fr_keep_nil, fr_keep_cons, fr_has_nil, fr_has_cons, Option.bind_some, Option.map_some, xbin, ibin, xresult_eq, xress_nil, xress_tmp, resV, ex_some, if_true, if_false, ite_true, ite_false, reduceIte, reduceCtorEq, Nat.reduceEqDiff, Nat.reduceLT, Nat.reduceLeDiff, Int.reduceLT, Int.reduceLE, Nat.zero_add, Nat.reduceAdd, Bool.false_eq_true, decide_eq_true_eq, decide_eq_false_iff_not, true_implies, false_implies, and_true, true_and, e0, n1]
  rw [run_loop]
  generalize hL : XCode.loop xmfm_size_l0 = LL
  cases mark
  · simp only [xmfm_size_l0, ofArgs, run_seq, run_block, run_ops, run_skip, run_exit, run_ret, thenQ_normal, thenQ_exit, thenQ_ret, blockQ_normal, blockQ_exit, blockQ_ret, retQ_ret, retQ_normal, ops_nil, ops_none, got_some, ops_wT, ops_wTn, ops_wF, ops_wFn, ops_wU, dops_wT, dops_wTn, dops_wF, dops_wFn, dops_wU, run_condT, run_condF, alt2_int, altB_bool, altI_int, altBB_bool, v_min, v_max, v_not, v_neg, optEv_none, optEv_some, isSome'_none, isSome'_some, pExt0, pExt1, pExt2, Bool.false_and, Bool.true_and, Bool.not_true, Bool.not_false, cond_true, cond_false, dops_nil, dops_none, xval_call, v_mov, v_bin, v_len, v_ext, v_idxA, v_ld, v_st, v_app, v_appN, v_cvs, v_bs1, pBs1, v_slc, v_conv, v_fld, v_fldA, v_new, v_box, v_mks, v_copy, v_isnil, v_nilck, v_pick, ev, evs_nil, evs_cons, fr_get_cons, fr_put_nil, fr_put_cons, fr_put_some, fr_put_none, fr_keep_nil, fr_keep_cons, fr_has_nil, fr_has_cons, Option.bind_some, Option.map_some, xbin, ibin, xresult_eq, xress_nil, xress_tmp, resV, ex_some, if_true, if_false, ite_true, ite_false, reduceIte, reduceCtorEq, Nat.reduceEqDiff, Nat.reduceLT, Nat.reduceLeDiff, Int.reduceLT, Int.reduceLE, Nat.zero_add, Nat.reduceAdd, Bool.false_eq_true, decide_eq_true_eq, decide_eq_false_iff_not, true_implies, false_implies, and_true, true_and, decide_true, decide_false, e1, e2, e3, pFldA_ptr, e4, e5, e6, w1, c1, w3]
    subst hL
    rw [run_loop]
    generalize hL : XCode.loop xmfm_size_l0 = LL
    simp only [xmfm_size_l0, ofArgs, run_seq, run_block, run_ops, run_skip, run_exit, run_ret, thenQ_normal, thenQ_exit, thenQ_ret, blockQ_normal, blockQ_exit, blockQ_ret, retQ_ret, retQ_normal, ops_nil, ops_none, got_some, ops_wT, ops_wTn, ops_wF, ops_wFn, ops_wU, dops_wT, dops_wTn, dops_wF, dops_wFn, dops_wU, run_condT, run_condF, alt2_int, altB_bool, altI_int, altBB_bool, v_min, v_max, v_not, v_neg, optEv_none, optEv_some, isSome'_none, isSome'_some, pExt0, pExt1, pExt2, Bool.false_and, Bool.true_and, Bool.not_true, Bool.not_false, cond_true, cond_false, dops_nil, dops_none, xval_call, v_mov, v_bin, v_len, v_ext, v_idxA, v_ld, v_st, v_app, v_appN, v_cvs, v_bs1, pBs1, v_slc, v_conv, v_fld, v_fldA, v_new, v_box, v_mks, v_copy, v_isnil, v_nilck, v_pick, ev, evs_nil, evs_cons, fr_get_cons, fr_put_nil, fr_put_cons, fr_put_some, fr_put_none, fr_keep_nil, fr_keep_cons, fr_has_nil, fr_has_cons, Option.bind_some, Option.map_some, xbin, ibin, xresult_eq, xress_nil, xress_tmp, resV, ex_some, if_true, if_false, ite_true, ite_false, reduceIte, reduceCtorEq, Nat.reduceEqDiff, Nat.reduceLT, Nat.reduceLeDiff, Int.reduceLT, Int.reduceLE, Nat.zero_add, Nat.reduceAdd, Bool.false_eq_true, decide_eq_true_eq, decide_eq_false_iff_not, true_implies, false_implies, and_true, true_and, Int.lt_irrefl, decide_false]
    have := hq _ hx
    simpa using this
  · simp only [xmfm_size_l0, ofArgs, run_seq, run_block, run_ops, run_skip, run_exit, run_ret, thenQ_normal, thenQ_exit, thenQ_ret, blockQ_normal, blockQ_exit, blockQ_ret, retQ_ret, retQ_normal, ops_nil, ops_none, got_some, ops_wT, ops_wTn, ops_wF, ops_wFn, ops_wU, dops_wT, dops_wTn, dops_wF, dops_wFn, dops_wU, run_condT, run_condF, alt2_int, altB_bool, altI_int, altBB_bool, v_min, v_max, v_not, v_neg, optEv_none, optEv_some, isSome'_none, isSome'_some, pExt0, pExt1, pExt2, Bool.false_and, Bool.true_and, Bool.not_true, Bool.not_false, cond_true, cond_false, dops_nil, dops_none, xval_call, v_mov, v_bin, v_len, v_ext, v_idxA, v_ld, v_st, v_app, v_appN, v_cvs, v_bs1, pBs1, v_slc, v_conv, v_fld, v_fldA, v_new, v_box, v_mks, v_copy, v_isnil, v_nilck, v_pick, ev, evs_nil, evs_cons, fr_get_cons, fr_put_nil, fr_put_cons, fr_put_some, fr_put_none, fr_keep_nil, fr_keep_cons, fr_has_nil, fr_has_cons, Option.bind_some, Option.map_some, xbin, ibin, xresult_eq, xress_nil, xress_tmp, resV, ex_some, if_true, if_false, ite_true, ite_false, reduceIte, reduceCtorEq, Nat.reduceEqDiff, Nat.reduceLT, Nat.reduceLeDiff, Int.reduceLT, Int.reduceLE, Nat.zero_add, Nat.reduceAdd, Bool.false_eq_true, decide_eq_true_eq, decide_eq_false_iff_not, true_implies, false_implies, and_true, true_and, decide_true, decide_false, e1, e2, e3, pFldA_ptr, e4, e5, e6, w1, w2, c2, w3]
    subst hL
    rw [run_loop]
    generalize hL : XCode.loop xmfm_size_l0 = LL
    simp only [xmfm_size_l0, ofArgs, run_seq, run_block, run_ops, run_skip, run_exit, run_ret, thenQ_normal, thenQ_exit, thenQ_ret, blockQ_normal, blockQ_exit, blockQ_ret, retQ_ret, retQ_normal, ops_nil, ops_none, got_some, ops_wT, ops_wTn, ops_wF, ops_wFn, ops_wU, dops_wT, dops_wTn, dops_wF, dops_wFn, dops_wU, run_condT, run_condF, alt2_int, altB_bool, altI_int, altBB_bool, v_min, v_max, v_not, v_neg, optEv_none, optEv_some, isSome'_none, isSome'_some, pExt0, pExt1, pExt2, Bool.false_and, Bool.true_and, Bool.not_true, Bool.not_false, cond_true, cond_false, dops_nil, dops_none, xval_call, v_mov, v_bin, v_len, v_ext, v_idxA, v_ld, v_st, v_app, v_appN, v_cvs, v_bs1, pBs1, v_slc, v_conv, v_fld, v_fldA, v_new, v_box, v_mks, v_copy, v_isnil, v_nilck, v_pick, ev, evs_nil, evs_cons, fr_get_cons, fr_put_nil, fr_put_cons, fr_put_some, fr_put_none, fr_keep_nil, fr_keep_cons, fr_has_nil, fr_has_cons, Option.bind_some, Option.map_some, xbin, ibin, xresult_eq, xress_nil, xress_tmp, resV, ex_some, if_true, if_false, ite_true, ite_false, reduceIte, reduceCtorEq, Nat.reduceEqDiff, Nat.reduceLT, Nat.reduceLeDiff, Int.reduceLT, Int.reduceLE, Nat.zero_add, Nat.reduceAdd, Bool.false_eq_true, decide_eq_true_eq, decide_eq_false_iff_not, true_implies, false_implies, and_true, true_and, Int.lt_irrefl, decide_false]
    have := hq _ hx
    simpa using this

theorem wp_l0 (n0 W : Nat) (va p16 : Value) (cell i17 i18 : Int) (hva : ∀ b, inB va b → b < W) (rest : List Int) : ∀ (pre : List Int) (q : List Bool) (last : Bool) (H : AH) (i N : Int) (Q : XExit → Fr → AH → Prop), Wr n0 H W q last → Byts H va (pre ++ rest) → B8 rest → q.length + 16 * rest.length ≤ 80000 → pre.length + rest.length ≤ 10000 → i = (pre.length : Int) → N = ((pre ++ rest).length : Int) →
    (∀ H', Wr n0 H' W (q ++ syms rest last) (lastOf rest last) → KeepB n0 W H H' → Q (.exit 2) [(1, .int .i64 cell), (6, .pointer (some ⟨W, 0, none⟩)), (16, p16), (17, .int .i64 i17), (18, .int .i64 i18), (27, va), (28, .int .i64 N), (29, .int .i64 N), (30, .bool false)] H') →
    Run Try.prog tab (.loop xmfm_WriteParts_l0) [(1, .int .i64 cell), (6, .pointer (some ⟨W, 0, none⟩)), (16, p16), (17, .int .i64 i17), (18, .int .i64 i18), (27, va), (28, .int .i64 N), (29, .int .i64 i)] H Q := by
  induction rest with
  | nil =>
    intro pre q last H i N Q hw hs hb hl hl2 hi hN hq
    rw [run_loop]
    generalize hL : XCode.loop xmfm_WriteParts_l0 = LL
    have hiN : i = N := by simp at hN; omega
    subst hiN
    have hf : ¬ i < i := by omega
    simp only [xmfm_WriteParts_l0, ofArgs, run_seq, run_block, run_ops, run_skip, run_exit, run_ret, thenQ_normal, thenQ_exit, thenQ_ret, blockQ_normal, blockQ_exit, blockQ_ret, retQ_ret, retQ_normal, ops_nil, ops_none, got_some, ops_wT, ops_wTn, ops_wF, ops_wFn, ops_wU, dops_wT, dops_wTn, dops_wF, dops_wFn, dops_wU, run_condT, run_condF, alt2_int, altB_bool, altI_int, altBB_bool, v_min, v_max, v_not, v_neg, optEv_none, optEv_some, isSome'_none, isSome'_some, pExt0, pExt1, pExt2, Bool.false_and, Bool.true_and, Bool.not_true, Bool.not_false, cond_true, cond_false, dops_nil, dops_none, xval_call, v_mov, v_bin, v_len, v_ext, v_idxA, v_ld, v_st, v_app, v_appN, v_cvs, v_bs1, pBs1, v_slc, v_conv, v_fld, v_fldA, v_new, v_box, v_mks, v_copy, v_isnil, v_nilck, v_pick, ev, evs_nil, evs_cons, fr_get_cons, fr_put_nil, fr_put_cons, fr_put_some, fr_put_none, fr_keep_nil, fr_keep_cons, fr_has_nil, fr_has_cons, Option.bind_some, Option.map_some, xbin, ibin, xresult_eq, xress_nil, xress_tmp, resV, ex_some, if_true, if_false, ite_true, ite_false, reduceIte, reduceCtorEq, Nat.reduceEqDiff, Nat.reduceLT, Nat.reduceLeDiff, Int.reduceLT, Int.reduceLE, Nat.zero_add, Nat.reduceAdd, Bool.false_eq_true, decide_eq_true_eq, decide_eq_false_iff_not, true_implies, false_implies, and_true, true_and, hf, decide_false]
    exact hq H (by simpa [syms, lastOf] using hw) (.refl _ _ _)
  | cons a rest ih =>
    intro pre q last H i N Q hw hs hb hl hl2 hi hN hq
    simp only [List.length_cons] at hl hl2
    rw [run_loop]
    generalize hL : XCode.loop xmfm_WriteParts_l0 = LL
    have hlt : i < N := by simp at hN; omega
    have ha := hb a (by simp)
    have e1 := byts_idx hs i pre.length hi (by simp)
    have e2 := byts_ld hs pre.length a (by simp)
    have e4 := wrI (i + 1) (by omega) (by omega)
    obtain ⟨c, rfl⟩ : ∃ c : Nat, a = (c : Int) := ⟨a.toNat, by omega⟩
    simp only [xmfm_WriteParts_l0, ofArgs, run_seq, run_block, run_ops, run_skip, run_exit, run_ret, thenQ_normal, thenQ_exit, thenQ_ret, blockQ_normal, blockQ_exit, blockQ_ret, retQ_ret, retQ_normal, ops_nil, ops_none, got_some, ops_wT, ops_wTn, ops_wF, ops_wFn, ops_wU, dops_wT, dops_wTn, dops_wF, dops_wFn, dops_wU, run_condT, run_condF, alt2_int, altB_bool, altI_int, altBB_bool, v_min, v_max, v_not, v_neg, optEv_none, optEv_some, isSome'_none, isSome'_some, pExt0, pExt1, pExt2, Bool.false_and, Bool.true_and, Bool.not_true, Bool.not_false, cond_true, cond_false, dops_nil, dops_none, xval_call, v_mov, v_bin, v_len, v_ext, v_idxA, v_ld, v_st, v_app, v_appN, v_cvs, v_bs1, pBs1, v_slc, v_conv, v_fld, v_fldA, v_new, v_box, v_mks, v_copy, v_isnil, v_nilck, v_pick, ev, evs_nil, evs_cons, fr_get_cons, fr_put_nil, fr_put_cons, fr_put_some, fr_put_none, fr_keep_nil, fr_keep_cons, fr_has_nil, fr_has_cons, Option.bind_some, Option.map_some, xbin, ibin, xresult_eq, xress_nil, xress_tmp, resV, ex_some, if_true, if_false, ite_true, ite_false, reduceIte, reduceCtorEq, Nat.reduceEqDiff, Nat.reduceLT, Nat.reduceLeDiff, Int.reduceLT, Int.reduceLE, Nat.zero_add, Nat.reduceAdd, Bool.false_eq_true, decide_eq_true_eq, decide_eq_false_iff_not, true_implies, false_implies, and_true, true_and, hlt, decide_true, e1, e2]
    refine put_w n0 H W q last c (by omega) false _ hw (by omega) ?_
    intro H' w' k'
    simp only [ofArgs, run_seq, run_block, run_ops, run_skip, run_exit, run_ret, thenQ_normal, thenQ_exit, thenQ_ret, blockQ_normal, blockQ_exit, blockQ_ret, retQ_ret, retQ_normal, ops_nil, ops_none, got_some, ops_wT, ops_wTn, ops_wF, ops_wFn, ops_wU, dops_wT, dops_wTn, dops_wF, dops_wFn, dops_wU, run_condT, run_condF, alt2_int, altB_bool, altI_int, altBB_bool, v_min, v_max, v_not, v_neg, optEv_none, optEv_some, isSome'_none, isSome'_some, pExt0, pExt1, pExt2, Bool.false_and, Bool.true_and, Bool.not_true, Bool.not_false, cond_true, cond_false, dops_nil, dops_none, xval_call, v_mov, v_bin, v_len, v_ext, v_idxA, v_ld, v_st, v_app, v_appN, v_cvs, v_bs1, pBs1, v_slc, v_conv, v_fld, v_fldA, v_new, v_box, v_mks, v_copy, v_isnil, v_nilck, v_pick, ev, evs_nil, evs_cons, fr_get_cons, fr_put_nil, fr_put_cons, fr_put_some, fr_put_none, fr_keep_nil, fr_keep_cons, fr_has_nil, fr_has_cons, Option.bind_some, Option.map_some, xbin, ibin, xresult_eq, xress_nil, xress_tmp, resV, ex_some, if_true, if_false, ite_true, ite_false, reduceIte, reduceCtorEq, Nat.reduceEqDiff, Nat.reduceLT, Nat.reduceLeDiff, Int.reduceLT, Int.reduceLE, Nat.zero_add, Nat.reduceAdd, Bool.false_eq_true, decide_eq_true_eq, decide_eq_false_iff_not, true_implies, false_implies, and_true, true_and, e4]
    subst hL
    have hWn := hw.1
    refine ih (pre ++ [(c : Int)]) (q ++ msym c false 8 last) (c.testBit 0) H' (i + 1) N Q w' (Byts.app1 (Sl.same hs k'.1 fun b hb => k'.2 b (by have := hva b hb; omega) (by have := hva b hb; omega))) (fun p hp => hb p (by simp [hp])) (by simp [msym_len]; omega) (by simp; omega) (by simp; omega) (by simpa using hN) ?_
    intro H2 w2 k2
    exact hq H2 (by simpa [syms, lastOf] using w2) (k'.trans k2)

theorem KeepB.keep {n0 W m : Nat} {A B : AH} (h : KeepB n0 W A B) (hm : m ≤ W) (hm2 : m ≤ n0) : Keep m A B := ⟨h.1, fun b hb => h.2 b (by omega) (by omega)⟩
set_option maxHeartbeats 4000000 in
theorem write1_ok (mark : Bool) (a : List Int) (vp va : Value) (cell : Int) (H : AH) (Q : Value → AH → Prop) (hp : Sl H 2 vp 1 [.bool mark, va]) (ha : Byts H va a) (h8 : B8 a) (hl : a.length ≤ 1000) (hc : 2 ≤ cell) (hc2 : cell ≤ 1000)
    (hq : ∀ v H', OwnI H.n H' v (pul cell (gaps (full mark a)).1) → HExt H H' → Q (.tuple [v, .int .i64 0].toArray) H') : Got (xc Try.prog tab 62 [vp, .int .i64 cell] H) Q := by
  refine got_call (res := [.tmp 4, .tmp 5]) rfl ?_
  simp only [ofArgs, run_seq, run_block, run_ops, run_skip, run_exit, run_ret, thenQ_normal, thenQ_exit, thenQ_ret, blockQ_normal, blockQ_exit, blockQ_ret, retQ_ret, retQ_normal, ops_nil, ops_none, got_some, ops_wT, ops_wTn, ops_wF, ops_wFn, ops_wU, dops_wT, dops_wTn, dops_wF, dops_wFn, dops_wU, run_condT, run_condF, alt2_int, altB_bool, altI_int, altBB_bool, v_min, v_max, v_not, v_neg, optEv_none, optEv_some, isSome'_none, isSome'_some, pExt0, pExt1, pExt2, Bool.false_and, Bool.true_and, Bool.not_true, Bool.not_false, cond_true, cond_false, dops_nil, dops_none, xval_call, v_mov, v_bin, v_len, v_ext, v_idxA, v_ld, v_st, v_app, v_appN, v_cvs, v_bs1, pBs1, v_slc, v_conv, v_fld, v_fldA, v_new, v_box, v_mks, v_copy, v_isnil, v_nilck, v_pick, ev, evs_nil, evs_cons, fr_get_cons, fr_put_nil, fr_put_cons, fr_put_some, fr_put_none, fr_keep_nil, fr_keep_cons, fr_has_nil, fr_has_cons, Option.bind_some, Option.map_some, xbin, ibin, xresult_eq, xress_nil, xress_tmp, resV, ex_some, if_true, if_false, ite_true, ite_false, reduceIte, reduceCtorEq, Nat.reduceEqDiff, Nat.reduceLT, Nat.reduceLeDiff, Int.reduceLT, Int.reduceLE, Nat.zero_add, Nat.reduceAdd, Bool.false_eq_true, decide_eq_true_eq, decide_eq_false_iff_not, true_implies, false_implies, and_true, true_and]
  refine size1_ok mark a vp va H _ hp ha (by omega) ?_
  intro H1 x1
  have c1 : ¬ ((a.length : Int) + (if mark then 1 else 0) > 2400) := by split <;> omega
  have hbuild : ∀ (fr : Fr) (H : AH), xval Try.prog (xc Try.prog tab) ⟨some 14, .build [.slice none 0 0, .int .i64 0, .bool false] [(2, 1, .const (.bool true))], none⟩ fr H = some (.agg #[.slice none 0 0, .int .i64 0, .bool true], H) := fun _ _ => rfl
  have ev3 : vcells (.agg #[.slice none 0 0, .int .i64 0, .bool true]) = [.slice none 0 0, .int .i64 0, .bool true] := rfl
  have x2 := hext_push H1 ⟨[.slice none 0 0, .int .i64 0, .bool true], 1, false, false⟩
  have hp1 : Sl (H1.push ⟨[.slice none 0 0, .int .i64 0, .bool true], 1, false, false⟩) 2 vp 1 [.bool mark, va] := Sl.ext x2 (Sl.ext x1 hp)
  have ha1 : Byts (H1.push ⟨[.slice none 0 0, .int .i64 0, .bool true], 1, false, false⟩) va a := Sl.ext x2 (Sl.ext x1 ha)
  have hw : Wr (H1.n + 1) (H1.push ⟨[.slice none 0 0, .int .i64 0, .bool true], 1, false, false⟩) H1.n [] true :=
    ⟨by omega, by simp, .slice none 0 0, by rw [AH.get_push, if_pos rfl]; rfl, Own.nil _ _ _⟩
  have hgW : (H1.push ⟨[.slice none 0 0, .int .i64 0, .bool true], 1, false, false⟩).get H1.n = some ⟨[.slice none 0 0, .int .i64 0, .bool true], 1, false, false⟩ := by rw [AH.get_push, if_pos rfl]
  have e0 := pLen_ok hp1
  have n1 : ((1 : Nat) : Int) = 1 := rfl
  have hn2 : (H1.push ⟨[.slice none 0 0, .int .i64 0, .bool true], 1, false, false⟩).n = H1.n + 1 := by simp
  simp only [ofArgs, run_seq, run_block, run_ops, run_skip, run_exit, run_ret, thenQ_normal, thenQ_exit, thenQ_ret, blockQ_normal, blockQ_exit, blockQ_ret, retQ_ret, retQ_normal, ops_nil, ops_none, got_some, ops_wT, ops_wTn, ops_wF, ops_wFn, ops_wU, dops_wT, dops_wTn, dops_wF, dops_wFn, dops_wU, run_condT, run_condF, alt2_int, altB_bool, altI_int, altBB_bool, v_min, v_max, v_not, v_neg, optEv_none, optEv_some, isSome'_none, isSome'_some, pExt0, pExt1, pExt2, Bool.false_and, Bool.true_and, Bool.not_true, Bool.not_false, cond_true, cond_false, dops_nil, dops_none, xval_call, v_mov, v_bin, v_len, v_ext, v_idxA, v_ld, v_st, v_app, v_appN, v_cvs, v_bs1, pBs1, v_slc, v_conv, v_fld, v_fldA, v_new, v_box, v_mks, v_copy, v_isnil, v_nilck, v_pick, ev, evs_nil, evs_cons, fr_get_cons, fr_put_nil, fr_put_cons, fr_put_some, fr_put_none, fr_keep_nil, fr_keep_cons, fr_has_nil, fr_has_cons, Option.bind_some, Option.map_some, xbin, ibin, xresult_eq, xress_nil, xress_tmp, resV, ex_some, if_true, if_false, ite_true, ite_false, reduceIte, reduceCtorEq, Nat.reduceEqDiff, Nat.reduceLT, Nat.reduceLeDiff, Int.reduceLT, Int.reduceLE, Nat.zero_add, Nat.reduceAdd, Bool.false_eq_true, decide_eq_true_eq, decide_eq_false_iff_not, true_implies, false_implies, and_true, true_and, c1, decide_false, hbuild, ev3, e0, n1]
  generalize (H1.push ⟨[.slice none 0 0, .int .i64 0, .bool true], 1, false, false⟩) = H2 at x2 hp1 ha1 hw e0 hn2 hgW
  have hxn := x1.1
  have hva : ∀ b, inB va b → b < H1.n := fun b hb => by have := Sl.lt ha hb; omega
  rw [run_loop]
  generalize hL : XCode.loop xmfm_WriteParts_l1 = LL
  obtain ⟨e1, e2⟩ := ld_part hp1
  obtain ⟨o1, o2⟩ := sl_slice ha1
  have g1 : (H2.push ⟨[.bool false, .slice none 0 0], 1, false, false⟩).get H2.n = some ⟨[.bool false, .slice none 0 0], 1, false, false⟩ := by rw [AH.get_push, if_pos rfl]
  have e3 := st2 (a' := .bool mark) (b' := va) g1 rfl o1
  have g2 : ((H2.push ⟨[.bool false, .slice none 0 0], 1, false, false⟩).set H2.n ⟨[.bool mark, va], 1, false, false⟩).get H2.n = some ⟨[.bool mark, va], 1, false, false⟩ := by rw [AH.get_set, if_pos rfl]
  have x3 := set_ext H2 ⟨[.bool false, .slice none 0 0], 1, false, false⟩ ⟨[.bool mark, va], 1, false, false⟩
  have hn3 : ((H2.push ⟨[.bool false, .slice none 0 0], 1, false, false⟩).set H2.n ⟨[.bool mark, va], 1, false, false⟩).n = H2.n + 1 := rfl
  have e4 := ld2_0 g2
  have w3 : IntKind.i64.wrap (0 + 1) = 1 := rfl
  have hg1 : H2.get H1.n = some ⟨[.slice none 0 0, .int .i64 0, .bool true], 1, false, false⟩ := hgW
  have hw3 : Wr (H2.n + 1) ((H2.push ⟨[.bool false, .slice none 0 0], 1, false, false⟩).set H2.n ⟨[.bool mark, va], 1, false, false⟩) H1.n [] true :=
    ⟨by omega, by omega, .slice none 0 0, by rw [x3.2 _ (by omega)]; exact hg1, Own.nil _ _ _⟩
  have e5 := ld2_1 g2
  have ha3 : Byts ((H2.push ⟨[.bool false, .slice none 0 0], 1, false, false⟩).set H2.n ⟨[.bool mark, va], 1, false, false⟩) va a := Sl.ext x3 ha1
  have e6 := byts_len' ha3
  have gb := full_gb mark a
  have glen := (gaps_len (full mark a)).1
  rw [full_len] at glen
  have glen2 : (gaps (full mark a)).1.length ≤ 40000 := by
    have : 2 * (8 * ((if mark then 1 else 0) + a.length) + 1) ≤ 40000 := by split <;> omega
    omega
  have hpul : ∀ (q : List Bool) (H4 : AH) (last : Bool), Wr (H2.n + 1) H4 H1.n q last → q.length ≤ 80000 → q ++ [false] ++ [true] = full mark a → KeepB (H2.n + 1) H1.n ((H2.push ⟨[.bool false, .slice none 0 0], 1, false, false⟩).set H2.n ⟨[.bool mark, va], 1, false, false⟩) H4 →
      Got (xc Try.prog tab 82 [.pointer (some ⟨H1.n, 0, none⟩), .bool false] H4) fun _ H5 => Got (xc Try.prog tab 82 [.pointer (some ⟨H1.n, 0, none⟩), .bool true] H5) fun _ H6 => ∃ vl g l2, H6.get H1.n = some ⟨[vl, g, l2], 1, false, false⟩ ∧
        Got (xc Try.prog tab 70 [vl, .int .i64 cell] H6) fun v H7 => ∃ v', v = .tuple [v', .int .i64 0].toArray ∧ Q (.tuple [v', .int .i64 0].toArray) H7 := by
    intro q H4 last w4 hql hfull k4
    refine place_w (H2.n + 1) H4 H1.n q last false _ w4 (by omega) ?_
    intro H5 w5 k5
    refine place_w (H2.n + 1) H5 H1.n _ last true _ w5 (by simp; omega) ?_
    intro H6 w6 k6
    rw [hfull] at w6
    obtain ⟨_, hn6, vl, g6, o6⟩ := w6
    refine ⟨vl, _, _, g6, ?_⟩
    refine pulses_ok _ cell vl H6 _ o6.ints glen2 hc hc2 (fun g hg => by have := gb.1 g hg; omega) ?_
    intro v' H7 o7 x7
    refine ⟨v', rfl, hq v' H7 (o7.le (by omega)) ?_⟩
    have k46 := (k4.trans (k5.trans k6)).keep (m := H.n) hxn (by omega)
    exact Keep.trans (n0 := H.n) x1 (Keep.trans (B := H2) (HExt.keep x2 hxn) (Keep.trans (HExt.keep x3 (by omega)) (k46.trans (HExt.keep x7 (by omega)))))
  have w161 : ((161 : Nat) : Int) = 161 := rfl
  cases mark
  · simp only [xmfm_WriteParts_l1, ofArgs, run_seq, run_block, run_ops, run_skip, run_exit, run_ret, thenQ_normal, thenQ_exit, thenQ_ret, blockQ_normal, blockQ_exit, blockQ_ret, retQ_ret, retQ_normal, ops_nil, ops_none, got_some, ops_wT, ops_wTn, ops_wF, ops_wFn, ops_wU, dops_wT, dops_wTn, dops_wF, dops_wFn, dops_wU, run_condT, run_condF, alt2_int, altB_bool, altI_int, altBB_bool, v_min, v_max, v_not, v_neg, optEv_none, optEv_some, isSome'_none, isSome'_some, pExt0, pExt1, pExt2, Bool.false_and, Bool.true_and, Bool.not_true, Bool.not_false, cond_true, cond_false, dops_nil, dops_none, xval_call, v_mov, v_bin, v_len, v_ext, v_idxA, v_ld, v_st, v_app, v_appN, v_cvs, v_bs1, pBs1, v_slc, v_conv, v_fld, v_fldA, v_new, v_box, v_mks, v_copy, v_isnil, v_nilck, v_pick, ev, evs_nil, evs_cons, fr_get_cons, fr_put_nil, fr_put_cons, fr_put_some, fr_put_none, fr_keep_nil, fr_keep_cons, fr_has_nil, fr_has_cons, Option.bind_some, Option.map_some, xbin, ibin, xresult_eq, xress_nil, xress_tmp, resV, ex_some, if_true, if_false, ite_true, ite_false, reduceIte, reduceCtorEq, Nat.reduceEqDiff, Nat.reduceLT, Nat.reduceLeDiff, Int.reduceLT, Int.reduceLE, Nat.zero_add, Nat.reduceAdd, Bool.false_eq_true, decide_eq_true_eq, decide_eq_false_iff_not, true_implies, false_implies, and_true, true_and, decide_true, e1, e2, e3, pFldA_ptr, e4, e5, e6]
    refine wp_l0 (H2.n + 1) H1.n va vp cell 1 0 hva a [] [] true _ 0 _ _ hw3 ha3 h8 (by simp; omega) (by simp; omega) (by simp) (by simp) ?_
    intro H4 w4 k4
    simp only [ofArgs, run_seq, run_block, run_ops, run_skip, run_exit, run_ret, thenQ_normal, thenQ_exit, thenQ_ret, blockQ_normal, blockQ_exit, blockQ_ret, retQ_ret, retQ_normal, ops_nil, ops_none, got_some, ops_wT, ops_wTn, ops_wF, ops_wFn, ops_wU, dops_wT, dops_wTn, dops_wF, dops_wFn, dops_wU, run_condT, run_condF, alt2_int, altB_bool, altI_int, altBB_bool, v_min, v_max, v_not, v_neg, optEv_none, optEv_some, isSome'_none, isSome'_some, pExt0, pExt1, pExt2, Bool.false_and, Bool.true_and, Bool.not_true, Bool.not_false, cond_true, cond_false, dops_nil, dops_none, xval_call, v_mov, v_bin, v_len, v_ext, v_idxA, v_ld, v_st, v_app, v_appN, v_cvs, v_bs1, pBs1, v_slc, v_conv, v_fld, v_fldA, v_new, v_box, v_mks, v_copy, v_isnil, v_nilck, v_pick, ev, evs_nil, evs_cons, fr_get_cons, fr_put_nil, fr_put_cons, fr_put_some, fr_put_none, fr_keep_nil, fr_keep_cons, fr_has_nil, fr_has_cons, Option.bind_some, Option.map_some, xbin, ibin, xresult_eq, xress_nil, xress_tmp, resV, ex_some, if_true, if_false, ite_true, ite_false, reduceIte, reduceCtorEq, Nat.reduceEqDiff, Nat.reduceLT, Nat.reduceLeDiff, Int.reduceLT, Int.reduceLE, Nat.zero_add, Nat.reduceAdd, Bool.false_eq_true, decide_eq_true_eq, decide_eq_false_iff_not, true_implies, false_implies, and_true, true_and, w3]
    subst hL
    rw [run_loop]
    generalize hL : XCode.loop xmfm_WriteParts_l1 = LL
    simp only [xmfm_WriteParts_l1, ofArgs, run_seq, run_block, run_ops, run_skip, run_exit, run_ret, thenQ_normal, thenQ_exit, thenQ_ret, blockQ_normal, blockQ_exit, blockQ_ret, retQ_ret, retQ_normal, ops_nil, ops_none, got_some, ops_wT, ops_wTn, ops_wF, ops_wFn, ops_wU, dops_wT, dops_wTn, dops_wF, dops_wFn, dops_wU, run_condT, run_condF, alt2_int, altB_bool, altI_int, altBB_bool, v_min, v_max, v_not, v_neg, optEv_none, optEv_some, isSome'_none, isSome'_some, pExt0, pExt1, pExt2, Bool.false_and, Bool.true_and, Bool.not_true, Bool.not_false, cond_true, cond_false, dops_nil, dops_none, xval_call, v_mov, v_bin, v_len, v_ext, v_idxA, v_ld, v_st, v_app, v_appN, v_cvs, v_bs1, pBs1, v_slc, v_conv, v_fld, v_fldA, v_new, v_box, v_mks, v_copy, v_isnil, v_nilck, v_pick, ev, evs_nil, evs_cons, fr_get_cons, fr_put_nil, fr_put_cons, fr_put_some, fr_put_none, fr_keep_nil, fr_keep_cons, fr_has_nil, fr_has_cons, Option.bind_some, Option.map_some, xbin, ibin, xresult_eq, xress_nil, xress_tmp, resV, ex_some, if_true, if_false, ite_true, ite_false, reduceIte, reduceCtorEq, Nat.reduceEqDiff, Nat.reduceLT, Nat.reduceLeDiff, Int.reduceLT, Int.reduceLE, Nat.zero_add, Nat.reduceAdd, Bool.false_eq_true, decide_eq_true_eq, decide_eq_false_iff_not, true_implies, false_implies, and_true, true_and, Int.lt_irrefl, decide_false]
    refine (hpul _ H4 _ w4 (by simp [syms_len]; omega) (by simp [full]) k4).mono ?_
    intro _ H5 g5
    refine g5.mono ?_
    rintro _ H6 ⟨vl, g, l2, g6, h6⟩
    have e7 := ld3_0 g6
    simp only [ofArgs, run_seq, run_block, run_ops, run_skip, run_exit, run_ret, thenQ_normal, thenQ_exit, thenQ_ret, blockQ_normal, blockQ_exit, blockQ_ret, retQ_ret, retQ_normal, ops_nil, ops_none, got_some, ops_wT, ops_wTn, ops_wF, ops_wFn, ops_wU, dops_wT, dops_wTn, dops_wF, dops_wFn, dops_wU, run_condT, run_condF, alt2_int, altB_bool, altI_int, altBB_bool, v_min, v_max, v_not, v_neg, optEv_none, optEv_some, isSome'_none, isSome'_some, pExt0, pExt1, pExt2, Bool.false_and, Bool.true_and, Bool.not_true, Bool.not_false, cond_true, cond_false, dops_nil, dops_none, xval_call, v_mov, v_bin, v_len, v_ext, v_idxA, v_ld, v_st, v_app, v_appN, v_cvs, v_bs1, pBs1, v_slc, v_conv, v_fld, v_fldA, v_new, v_box, v_mks, v_copy, v_isnil, v_nilck, v_pick, ev, evs_nil, evs_cons, fr_get_cons, fr_put_nil, fr_put_cons, fr_put_some, fr_put_none, fr_keep_nil, fr_keep_cons, fr_has_nil, fr_has_cons, Option.bind_some, Option.map_some, xbin, ibin, xresult_eq, xress_nil, xress_tmp, resV, ex_some, if_true, if_false, ite_true, ite_false, reduceIte, reduceCtorEq, Nat.reduceEqDiff, Nat.reduceLT, Nat.reduceLeDiff, Int.reduceLT, Int.reduceLE, Nat.zero_add, Nat.reduceAdd, Bool.false_eq_true, decide_eq_true_eq, decide_eq_false_iff_not, true_implies, false_implies, and_true, true_and, pNil_ptr, pFldA_ptr, e7]
    refine h6.mono ?_
    rintro v H7 ⟨v', rfl, hQ⟩
    simp only [ofArgs, run_seq, run_block, run_ops, run_skip, run_exit, run_ret, thenQ_normal, thenQ_exit, thenQ_ret, blockQ_normal, blockQ_exit, blockQ_ret, retQ_ret, retQ_normal, ops_nil, ops_none, got_some, ops_wT, ops_wTn, ops_wF, ops_wFn, ops_wU, dops_wT, dops_wTn, dops_wF, dops_wFn, dops_wU, run_condT, run_condF, alt2_int, altB_bool, altI_int, altBB_bool, v_min, v_max, v_not, v_neg, optEv_none, optEv_some, isSome'_none, isSome'_some, pExt0, pExt1, pExt2, Bool.false_and, Bool.true_and, Bool.not_true, Bool.not_false, cond_true, cond_false, dops_nil, dops_none, xval_call, v_mov, v_bin, v_len, v_ext, v_idxA, v_ld, v_st, v_app, v_appN, v_cvs, v_bs1, pBs1, v_slc, v_conv, v_fld, v_fldA, v_new, v_box, v_mks, v_copy, v_isnil, v_nilck, v_pick, ev, evs_nil, evs_cons, fr_get_cons, fr_put_nil, fr_put_cons, fr_put_some, fr_put_none, fr_keep_nil, fr_keep_cons, fr_has_nil, fr_has_cons, Option.bind_some, Option.map_some, xbin, ibin, xresult_eq, xress_nil, xress_tmp, resV, ex_some, if_true, if_false, ite_true, ite_false, reduceIte, reduceCtorEq, Nat.reduceEqDiff, Nat.reduceLT, Nat.reduceLeDiff, Int.reduceLT, Int.reduceLE, Nat.zero_add, Nat.reduceAdd, Bool.false_eq_true, decide_eq_true_eq, decide_eq_false_iff_not, true_implies, false_implies, and_true, true_and]
    exact hQ
  · simp only [xmfm_WriteParts_l1, ofArgs, run_seq, run_block, run_ops, run_skip, run_exit, run_ret, thenQ_normal, thenQ_exit, thenQ_ret, blockQ_normal, blockQ_exit, blockQ_ret, retQ_ret, retQ_normal, ops_nil, ops_none, got_some, ops_wT, ops_wTn, ops_wF, ops_wFn, ops_wU, dops_wT, dops_wTn, dops_wF, dops_wFn, dops_wU, run_condT, run_condF, alt2_int, altB_bool, altI_int, altBB_bool, v_min, v_max, v_not, v_neg, optEv_none, optEv_some, isSome'_none, isSome'_some, pExt0, pExt1, pExt2, Bool.false_and, Bool.true_and, Bool.not_true, Bool.not_false, cond_true, cond_false, dops_nil, dops_none, xval_call, v_mov, v_bin, v_len, v_ext, v_idxA, v_ld, v_st, v_app, v_appN, v_cvs, v_bs1, pBs1, v_slc, v_conv, v_fld, v_fldA, v_new, v_box, v_mks, v_copy, v_isnil, v_nilck, v_pick, ev, evs_nil, evs_cons, fr_get_cons, fr_put_nil, fr_put_cons, fr_put_some, fr_put_none, fr_keep_nil, fr_keep_cons, fr_has_nil, fr_has_cons, Option.bind_some, Option.map_some, xbin, ibin, xresult_eq, xress_nil, xress_tmp, resV, ex_some, if_true, if_false, ite_true, ite_false, reduceIte, reduceCtorEq, Nat.reduceEqDiff, Nat.reduceLT, Nat.reduceLeDiff, Int.reduceLT, Int.reduceLE, Nat.zero_add, Nat.reduceAdd, Bool.false_eq_true, decide_eq_true_eq, decide_eq_false_iff_not, true_implies, false_implies, and_true, true_and, decide_true, e1, e2, e3, pFldA_ptr, e4]
    rw [← w161]
    refine put_w (H2.n + 1) _ H1.n [] true 161 (by omega) true _ hw3 (by simp) ?_
    intro H3 w3' k3
    have g3 : H3.get H2.n = some ⟨[.bool true, va], 1, false, false⟩ := by rw [k3.2 _ (by omega) (by omega)]; exact g2
    have e8 := ld2_1 g3
    have ha4 : Byts H3 va a := Sl.same ha3 k3.1 fun b hb => k3.2 b (by have := hva b hb; omega) (by have := hva b hb; omega)
    have e9 := byts_len' ha4
    simp only [ofArgs, run_seq, run_block, run_ops, run_skip, run_exit, run_ret, thenQ_normal, thenQ_exit, thenQ_ret, blockQ_normal, blockQ_exit, blockQ_ret, retQ_ret, retQ_normal, ops_nil, ops_none, got_some, ops_wT, ops_wTn, ops_wF, ops_wFn, ops_wU, dops_wT, dops_wTn, dops_wF, dops_wFn, dops_wU, run_condT, run_condF, alt2_int, altB_bool, altI_int, altBB_bool, v_min, v_max, v_not, v_neg, optEv_none, optEv_some, isSome'_none, isSome'_some, pExt0, pExt1, pExt2, Bool.false_and, Bool.true_and, Bool.not_true, Bool.not_false, cond_true, cond_false, dops_nil, dops_none, xval_call, v_mov, v_bin, v_len, v_ext, v_idxA, v_ld, v_st, v_app, v_appN, v_cvs, v_bs1, pBs1, v_slc, v_conv, v_fld, v_fldA, v_new, v_box, v_mks, v_copy, v_isnil, v_nilck, v_pick, ev, evs_nil, evs_cons, fr_get_cons, fr_put_nil, fr_put_cons, fr_put_some, fr_put_none, fr_keep_nil, fr_keep_cons, fr_has_nil, fr_has_cons, Option.bind_some, Option.map_some, xbin, ibin, xresult_eq, xress_nil, xress_tmp, resV, ex_some, if_true, if_false, ite_true, ite_false, reduceIte, reduceCtorEq, Nat.reduceEqDiff, Nat.reduceLT, Nat.reduceLeDiff, Int.reduceLT, Int.reduceLE, Nat.zero_add, Nat.reduceAdd, Bool.false_eq_true, decide_eq_true_eq, decide_eq_false_iff_not, true_implies, false_implies, and_true, true_and, pFldA_ptr, e8, e9]
    have e161 : (161 : Nat).testBit 0 = true := by decide
    rw [e161] at w3'
    refine wp_l0 (H2.n + 1) H1.n va vp cell 1 0 hva a [] _ true _ 0 _ _ w3' ha4 h8 (by simp [msym_len]; omega) (by simp; omega) (by simp) (by simp) ?_
    intro H4 w4 k4
    simp only [ofArgs, run_seq, run_block, run_ops, run_skip, run_exit, run_ret, thenQ_normal, thenQ_exit, thenQ_ret, blockQ_normal, blockQ_exit, blockQ_ret, retQ_ret, retQ_normal, ops_nil, ops_none, got_some, ops_wT, ops_wTn, ops_wF, ops_wFn, ops_wU, dops_wT, dops_wTn, dops_wF, dops_wFn, dops_wU, run_condT, run_condF, alt2_int, altB_bool, altI_int, altBB_bool, v_min, v_max, v_not, v_neg, optEv_none, optEv_some, isSome'_none, isSome'_some, pExt0, pExt1, pExt2, Bool.false_and, Bool.true_and, Bool.not_true, Bool.not_false, cond_true, cond_false, dops_nil, dops_none, xval_call, v_mov, v_bin, v_len, v_ext, v_idxA, v_ld, v_st, v_app, v_appN, v_cvs, v_bs1, pBs1, v_slc, v_conv, v_fld, v_fldA, v_new, v_box, v_mks, v_copy, v_isnil, v_nilck, v_pick, ev, evs_nil, evs_cons, fr_get_cons, fr_put_nil, fr_put_cons, fr_put_some, fr_put_none, fr_keep_nil, fr_keep_cons, fr_has_nil, fr_has_cons, Option.bind_some, Option.map_some, xbin, ibin, xresult_eq, xress_nil, xress_tmp, resV, ex_some, if_true, if_false, ite_true, ite_false, reduceIte, reduceCtorEq, Nat.reduceEqDiff, Nat.reduceLT, Nat.reduceLeDiff, Int.reduceLT, Int.reduceLE, Nat.zero_add, Nat.reduceAdd, Bool.false_eq_true, decide_eq_true_eq, decide_eq_false_iff_not, true_implies, false_implies, and_true, true_and, w3]
    subst hL
    rw [run_loop]
    generalize hL : XCode.loop xmfm_WriteParts_l1 = LL
    simp only [xmfm_WriteParts_l1, ofArgs, run_seq, run_block, run_ops, run_skip, run_exit, run_ret, thenQ_normal, thenQ_exit, thenQ_ret, blockQ_normal, blockQ_exit, blockQ_ret, retQ_ret, retQ_normal, ops_nil, ops_none, got_some, ops_wT, ops_wTn, ops_wF, ops_wFn, ops_wU, dops_wT, dops_wTn, dops_wF, dops_wFn, dops_wU, run_condT, run_condF, alt2_int, altB_bool, altI_int, altBB_bool, v_min, v_max, v_not, v_neg, optEv_none, optEv_some, isSome'_none, isSome'_some, pExt0, pExt1, pExt2, Bool.false_and, Bool.true_and, Bool.not_true, Bool.not_false, cond_true, cond_false, dops_nil, dops_none, xval_call, v_mov, v_bin, v_len, v_ext, v_idxA, v_ld, v_st, v_app, v_appN, v_cvs, v_bs1, pBs1, v_slc, v_conv, v_fld, v_fldA, v_new, v_box, v_mks, v_copy, v_isnil, v_nilck, v_pick, ev, evs_nil, evs_cons, fr_get_cons, fr_put_nil, fr_put_cons, fr_put_some, fr_put_none, fr_keep_nil, fr_keep_cons, fr_has_nil, fr_has_cons, Option.bind_some, Option.map_some, xbin, ibin, xresult_eq, xress_nil, xress_tmp, resV, ex_some, if_true, if_false, ite_true, ite_false, reduceIte, reduceCtorEq, Nat.reduceEqDiff, Nat.reduceLT, Nat.reduceLeDiff, Int.reduceLT, Int.reduceLE, Nat.zero_add, Nat.reduceAdd, Bool.false_eq_true, decide_eq_true_eq, decide_eq_false_iff_not, true_implies, false_implies, and_true, true_and, Int.lt_irrefl, decide_false]
    refine (hpul _ H4 _ w4 (by simp [syms_len, msym_len]; omega) (by simp [full]) (k3.trans k4)).mono ?_
    intro _ H5 g5
    refine g5.mono ?_
    rintro _ H6 ⟨vl, g, l2, g6, h6⟩
    have e7 := ld3_0 g6
    simp only [ofArgs, run_seq, run_block, run_ops, run_skip, run_exit, run_ret, thenQ_normal, thenQ_exit, thenQ_ret, blockQ_normal, blockQ_exit, blockQ_ret, retQ_ret, retQ_normal, ops_nil, ops_none, got_some, ops_wT, ops_wTn, ops_wF, ops_wFn, ops_wU, dops_wT, dops_wTn, dops_wF, dops_wFn, dops_wU, run_condT, run_condF, alt2_int, altB_bool, altI_int, altBB_bool, v_min, v_max, v_not, v_neg, optEv_none, optEv_some, isSome'_none, isSome'_some, pExt0, pExt1, pExt2, Bool.false_and, Bool.true_and, Bool.not_true, Bool.not_false, cond_true, cond_false, dops_nil, dops_none, xval_call, v_mov, v_bin, v_len, v_ext, v_idxA, v_ld, v_st, v_app, v_appN, v_cvs, v_bs1, pBs1, v_slc, v_conv, v_fld, v_fldA, v_new, v_box, v_mks, v_copy, v_isnil, v_nilck, v_pick, ev, evs_nil, evs_cons, fr_get_cons, fr_put_nil, fr_put_cons, fr_put_some, fr_put_none, fr_keep_nil, fr_keep_cons, fr_has_nil, fr_has_cons, Option.bind_some, Option.map_some, xbin, ibin, xresult_eq, xress_nil, xress_tmp, resV, ex_some, if_true, if_false, ite_true, ite_false, reduceIte, reduceCtorEq, Nat.reduceEqDiff, Nat.reduceLT, Nat.reduceLeDiff, Int.reduceLT, Int.reduceLE, Nat.zero_add, Nat.reduceAdd, Bool.false_eq_true, decide_eq_true_eq, decide_eq_false_iff_not, true_implies, false_implies, and_true, true_and, pNil_ptr, pFldA_ptr, e7]
    refine h6.mono ?_
    rintro v H7 ⟨v', rfl, hQ⟩
    simp only [ofArgs, run_seq, run_block, run_ops, run_skip, run_exit, run_ret, thenQ_normal, thenQ_exit, thenQ_ret, blockQ_normal, blockQ_exit, blockQ_ret, retQ_ret, retQ_normal, ops_nil, ops_none, got_some, ops_wT, ops_wTn, ops_wF, ops_wFn, ops_wU, dops_wT, dops_wTn, dops_wF, dops_wFn, dops_wU, run_condT, run_condF, alt2_int, altB_bool, altI_int, altBB_bool, v_min, v_max, v_not, v_neg, optEv_none, optEv_some, isSome'_none, isSome'_some, pExt0, pExt1, pExt2, Bool.false_and, Bool.true_and, Bool.not_true, Bool.not_false, cond_true, cond_false, dops_nil, dops_none, xval_call, v_mov, v_bin, v_len, v_ext, v_idxA, v_ld, v_st, v_app, v_appN, v_cvs, v_bs1, pBs1, v_slc, v_conv, v_fld, v_fldA, v_new, v_box, v_mks, v_copy, v_isnil, v_nilck, v_pick, ev, evs_nil, evs_cons, fr_get_cons, fr_put_nil, fr_put_cons, fr_put_some, fr_put_none, fr_keep_nil, fr_keep_cons, fr_has_nil, fr_has_cons, Option.bind_some, Option.map_some, xbin, ibin, xresult_eq, xress_nil, xress_tmp, resV, ex_some, if_true, if_false, ite_true, ite_false, reduceIte, reduceCtorEq, Nat.reduceEqDiff, Nat.reduceLT, Nat.reduceLeDiff, Int.reduceLT, Int.reduceLE, Nat.zero_add, Nat.reduceAdd, Bool.false_eq_true, decide_eq_true_eq, decide_eq_false_iff_not, true_implies, false_implies, and_true, true_and]
    exact hQ
end Go.Proofs.Ytkhjmmidaihbhaa.D
