/- What functions that the law reaches compute, on a heap of the run's own: the conditions stand in each theorem. -/
import Derived.Test.YtejedmocjdcdgaaGcA
set_option linter.unusedSimpArgs false
set_option linter.unusedVariables false
namespace Go.Proofs.Ytejedmocjdcdgaa.D
open Go Go.Det

/-! ### no length is above 3 -/
theorem gaps_app' (q m : List Bool) : gaps (q ++ m) = m.foldl plc (gaps q) := by unfold gaps; rw [List.foldl_append]
theorem fold_plc (m : List Bool) : ∀ (l : List Int) (g : Nat), m.foldl plc (l, g) = (l ++ (m.foldl plc ([], g)).1, (m.foldl plc ([], g)).2) := by
  induction m with
  | nil => intro l g; simp
  | cons b m ih =>
    intro l g
    simp only [List.foldl_cons]
    cases b
    · simp only [plc, Bool.false_eq_true, if_false]
      exact ih l (g + 1)
    · simp only [plc, if_true]
      rw [ih (l ++ [((g + 1 : Nat) : Int)]) 0, ih ([] ++ [((g + 1 : Nat) : Int)]) 0]
      simp
def gOk (m : List Bool) : Bool := [0, 1].all fun g => (m.foldl plc ([], g)).1.all (fun x => decide (x ≤ 3)) && decide ((m.foldl plc ([], g)).2 ≤ 1)
theorem grp_ok (c : Nat) (hc : c < 256) : gOk (gbits (grp c) 10) = true := by
  revert c; decide +kernel
theorem grp_lt (c : Nat) (hc : c < 256) : grp c < 1024 := by
  revert c; decide +kernel
def GB3 (q : List Bool) : Prop := (∀ x ∈ (gaps q).1, x ≤ 3) ∧ (gaps q).2 ≤ 1
theorem gb3_step (q m : List Bool) (h : GB3 q) (hm : gOk m = true) : GB3 (q ++ m) := by
  obtain ⟨h1, h2⟩ := h
  unfold GB3
  rw [gaps_app']
  generalize gaps q = s at h1 h2
  obtain ⟨l, g⟩ := s
  simp only [] at h1 h2
  have hg : g ∈ [0, 1] := by simp; omega
  have := List.all_eq_true.1 hm g hg
  simp only [Bool.and_eq_true, List.all_eq_true, decide_eq_true_eq] at this
  rw [fold_plc]
  refine ⟨fun x hx => ?_, this.2⟩
  rcases List.mem_append.1 hx with hx | hx
  · exact h1 x hx
  · exact this.1 x hx
theorem gb3_qb (a : List Int) (h8 : B8 a) : ∀ q, GB3 q → GB3 (q ++ qb a) := by
  induction a with
  | nil => intro q h; simpa [qb] using h
  | cons c a ih =>
    intro q h
    have hc := h8 c (by simp)
    have := ih (fun b hb => h8 b (by simp [hb])) _ (gb3_step q _ h (grp_ok c.toNat (by omega)))
    simpa [qb] using this
def gfull (a : List Int) : List Bool := qb a ++ [true]
theorem gfull_gb (a : List Int) (h8 : B8 a) : (∀ x ∈ (gaps (gfull a)).1, 1 ≤ x ∧ x ≤ 3) ∧ (gaps (gfull a)).2 = 0 := by
  have h := gb3_qb a h8 [] (by simp [GB3, gaps])
  rw [List.nil_append] at h
  have hp := gaps_pos (gfull a)
  refine ⟨fun x hx => ⟨hp x hx, ?_⟩, ?_⟩
  · unfold gfull at hx
    rw [gaps_snoc] at hx
    obtain ⟨h1, h2⟩ := h
    simp only [plc, if_true] at hx
    rcases List.mem_append.1 hx with hx | hx
    · exact h1 x hx
    · simp at hx; omega
  · unfold gfull; rw [gaps_snoc]; rfl

theorem gw_l1 (n0 P G : Nat) (vc fn : Value) (cell : Int) (hfn : fn = .func (.func 61) #[] #[.pointer (some ⟨G, 0, none⟩), .pointer (some ⟨P, 0, none⟩)]) (vs : Value) (hvs : ∀ b, inB vs b → b < n0 ∧ b ≠ P ∧ b ≠ G) (hvc : ∀ b, inB vc b → b < n0 ∧ b ≠ P ∧ b ≠ G) (rest : List Int) :
    ∀ (pre : List Int) (q : List Bool) (H : AH) (i N : Int) (Q : XExit → Fr → AH → Prop), Wg n0 H P G q → Ints H vc CODES → Byts H vs (pre ++ rest) → B8 rest → q.length + 10 * rest.length ≤ 80000 → pre.length + rest.length ≤ 2000 → i = (pre.length : Int) → N = ((pre ++ rest).length : Int) →
    (∀ H', Wg n0 H' P G (q ++ qb rest) → KeepG n0 P G H H' → Q (.exit 0) [(1, .int .i64 cell), (6, vc), (7, .pointer (some ⟨P, 0, none⟩)), (9, fn), (19, vs), (20, .int .i64 N), (21, .int .i64 N), (22, .bool false)] H') →
    Run Try.prog tab (.loop xgcr_Write_l1) [(1, .int .i64 cell), (6, vc), (7, .pointer (some ⟨P, 0, none⟩)), (9, fn), (19, vs), (20, .int .i64 N), (21, .int .i64 i)] H Q := by
  induction rest with
  | nil =>
    intro pre q H i N Q hw hcd hs hb hl hl2 hi hN hq
    rw [run_loop]
    generalize hL : XCode.loop xgcr_Write_l1 = L
    have hiN : i = N := by simp at hN; omega
    subst hiN
    have hf : ¬ i < i := by omega
    simp only [xgcr_Write_l1, ofArgs, run_seq, run_block, run_ops, run_skip, run_exit, run_ret, thenQ_normal, thenQ_exit, thenQ_ret, blockQ_normal, blockQ_exit, blockQ_ret, retQ_ret, retQ_normal, ops_nil, ops_none, got_some, ops_wT, ops_wTn, ops_wF, ops_wFn, ops_wU, dops_wT, dops_wTn, dops_wF, dops_wFn, dops_wU, run_condT, run_condF, alt2_int, altB_bool, altI_int, altBB_bool, v_min, v_max, v_not, v_neg, optEv_none, optEv_some, isSome'_none, isSome'_some, pExt0, pExt1, pExt2, Bool.false_and, Bool.true_and, Bool.not_true, Bool.not_false, cond_true, cond_false, dops_nil, dops_none, xval_call, v_mov, v_bin, v_len, v_ext, v_idxA, v_ld, v_st, v_app, v_appN, v_cvs, v_bs1, pBs1, v_slc, v_conv, v_fld, v_fldA, v_new, v_box, v_mks, v_copy, v_isnil, v_nilck, v_pick, ev, evs_nil, evs_cons, fr_get_cons, fr_put_nil, fr_put_cons, fr_put_some, fr_put_none, fr_keep_nil, fr_keep_cons, fr_has_nil, fr_has_cons, Option.bind_some, Option.map_some, xbin, ibin, xresult_eq, xress_nil, xress_tmp, resV, ex_some, if_true, if_false, ite_true, ite_false, reduceIte, reduceCtorEq, Nat.reduceEqDiff, Nat.reduceLT, Nat.reduceLeDiff, Int.reduceLT, Int.reduceLE, Nat.zero_add, Nat.reduceAdd, Bool.false_eq_true, decide_eq_true_eq, decide_eq_false_iff_not, true_implies, false_implies, and_true, true_and, hf, decide_false]
    exact hq H (by simpa [qb] using hw) (.refl _ _ _ _)
  | cons a rest ih =>
    intro pre q H i N Q hw hcd hs hb hl hl2 hi hN hq
    simp only [List.length_cons] at hl hl2
    rw [run_loop]
    generalize hL : XCode.loop xgcr_Write_l1 = L
    have hlt : i < N := by simp at hN; omega
    have ha := hb a (by simp)
    obtain ⟨c, rfl⟩ : ∃ c : Nat, a = (c : Int) := ⟨a.toNat, by omega⟩
    have e1 := byts_idx hs i pre.length hi (by simp)
    have e2 := byts_ld hs pre.length (c : Int) (by simp)
    have e4 := wrI (i + 1) (by omega) (by omega)
    have m4 : min (Int.toNat 4) IntKind.u8.bits = 4 := rfl
    have m5 : min (Int.toNat 5) IntKind.i64.bits = 5 := rfl
    have s4 := shrN c 4
    have s4' : c >>> 4 = c / 16 := by rw [Nat.shiftRight_eq_div_pow]
    rw [s4'] at s4
    have a15 := b_and c 15 (by omega) (by omega)
    have a15' : c &&& 15 = c % 16 := Nat.and_two_pow_sub_one_eq_mod c 4
    rw [a15'] at a15
    have n15 : ((15 : Nat) : Int) = 15 := rfl
    rw [n15] at a15
    have i1 := pIdx_one hcd .u8 ((c / 16 : Nat) : Int) (c / 16) rfl (by show c / 16 < 16; omega)
    have l1 := ints_ld hcd (c / 16) _ (codes_get (c / 16) (by omega))
    have i2 := pIdx_one hcd .u8 ((c % 16 : Nat) : Int) (c % 16) rfl (by show c % 16 < 16; omega)
    have l2 := ints_ld hcd (c % 16) _ (codes_get (c % 16) (by omega))
    have hcl : ∀ i, i < 16 → codeAt i < 32 := by decide
    have k1 := hcl (c / 16) (by omega)
    have k2 := hcl (c % 16) (by omega)
    have w5 : IntKind.i64.wrap ((codeAt (c / 16) : Int) * 2 ^ 5) = ((codeAt (c / 16) * 32 : Nat) : Int) := by rw [wrI _ (by omega) (by omega)]; omega
    have o5 := n_or (codeAt (c / 16) * 32) (codeAt (c % 16)) (by omega) (by omega)
    have hgrp : codeAt (c / 16) * 32 ||| codeAt (c % 16) = grp c := rfl
    rw [hgrp] at o5
    have c40 : ¬ ((4 : Int) < 0) := by omega
    have c50 : ¬ ((5 : Int) < 0) := by omega
    simp only [xgcr_Write_l1, ofArgs, run_seq, run_block, run_ops, run_skip, run_exit, run_ret, thenQ_normal, thenQ_exit, thenQ_ret, blockQ_normal, blockQ_exit, blockQ_ret, retQ_ret, retQ_normal, ops_nil, ops_none, got_some, ops_wT, ops_wTn, ops_wF, ops_wFn, ops_wU, dops_wT, dops_wTn, dops_wF, dops_wFn, dops_wU, run_condT, run_condF, alt2_int, altB_bool, altI_int, altBB_bool, v_min, v_max, v_not, v_neg, optEv_none, optEv_some, isSome'_none, isSome'_some, pExt0, pExt1, pExt2, Bool.false_and, Bool.true_and, Bool.not_true, Bool.not_false, cond_true, cond_false, dops_nil, dops_none, xval_call, v_mov, v_bin, v_len, v_ext, v_idxA, v_ld, v_st, v_app, v_appN, v_cvs, v_bs1, pBs1, v_slc, v_conv, v_fld, v_fldA, v_new, v_box, v_mks, v_copy, v_isnil, v_nilck, v_pick, ev, evs_nil, evs_cons, fr_get_cons, fr_put_nil, fr_put_cons, fr_put_some, fr_put_none, fr_keep_nil, fr_keep_cons, fr_has_nil, fr_has_cons, Option.bind_some, Option.map_some, xbin, ibin, xresult_eq, xress_nil, xress_tmp, resV, ex_some, if_true, if_false, ite_true, ite_false, reduceIte, reduceCtorEq, Nat.reduceEqDiff, Nat.reduceLT, Nat.reduceLeDiff, Int.reduceLT, Int.reduceLE, Nat.zero_add, Nat.reduceAdd, Bool.false_eq_true, decide_eq_true_eq, decide_eq_false_iff_not, true_implies, false_implies, and_true, true_and, hlt, decide_true, e1, e2]
    refine run_dops _ _ _ _ _ rfl ?_
    simp only [ofArgs, run_seq, run_block, run_ops, run_skip, run_exit, run_ret, thenQ_normal, thenQ_exit, thenQ_ret, blockQ_normal, blockQ_exit, blockQ_ret, retQ_ret, retQ_normal, ops_nil, ops_none, got_some, ops_wT, ops_wTn, ops_wF, ops_wFn, ops_wU, dops_wT, dops_wTn, dops_wF, dops_wFn, dops_wU, run_condT, run_condF, alt2_int, altB_bool, altI_int, altBB_bool, v_min, v_max, v_not, v_neg, optEv_none, optEv_some, isSome'_none, isSome'_some, pExt0, pExt1, pExt2, Bool.false_and, Bool.true_and, Bool.not_true, Bool.not_false, cond_true, cond_false, dops_nil, dops_none, xval_call, v_mov, v_bin, v_len, v_ext, v_idxA, v_ld, v_st, v_app, v_appN, v_cvs, v_bs1, pBs1, v_slc, v_conv, v_fld, v_fldA, v_new, v_box, v_mks, v_copy, v_isnil, v_nilck, v_pick, ev, evs_nil, evs_cons, fr_get_cons, fr_put_nil, fr_put_cons, fr_put_some, fr_put_none, fr_keep_nil, fr_keep_cons, fr_has_nil, fr_has_cons, Option.bind_some, Option.map_some, xbin, ibin, xresult_eq, xress_nil, xress_tmp, resV, ex_some, if_true, if_false, ite_true, ite_false, reduceIte, reduceCtorEq, Nat.reduceEqDiff, Nat.reduceLT, Nat.reduceLeDiff, Int.reduceLT, Int.reduceLE, Nat.zero_add, Nat.reduceAdd, Bool.false_eq_true, decide_eq_true_eq, decide_eq_false_iff_not, true_implies, false_implies, and_true, true_and, m4, m5, s4, a15, i1, l1, i2, l2, c40, c50, w5, o5]
    refine gw_l0 n0 P G (grp c) (grp_lt c (by omega)) vc vs fn cell N i hfn 10 q H 9 _ hw (by omega) (by omega) (by omega) ?_
    intro H' w' k'
    simp only [ofArgs, run_seq, run_block, run_ops, run_skip, run_exit, run_ret, thenQ_normal, thenQ_exit, thenQ_ret, blockQ_normal, blockQ_exit, blockQ_ret, retQ_ret, retQ_normal, ops_nil, ops_none, got_some, ops_wT, ops_wTn, ops_wF, ops_wFn, ops_wU, dops_wT, dops_wTn, dops_wF, dops_wFn, dops_wU, run_condT, run_condF, alt2_int, altB_bool, altI_int, altBB_bool, v_min, v_max, v_not, v_neg, optEv_none, optEv_some, isSome'_none, isSome'_some, pExt0, pExt1, pExt2, Bool.false_and, Bool.true_and, Bool.not_true, Bool.not_false, cond_true, cond_false, dops_nil, dops_none, xval_call, v_mov, v_bin, v_len, v_ext, v_idxA, v_ld, v_st, v_app, v_appN, v_cvs, v_bs1, pBs1, v_slc, v_conv, v_fld, v_fldA, v_new, v_box, v_mks, v_copy, v_isnil, v_nilck, v_pick, ev, evs_nil, evs_cons, fr_get_cons, fr_put_nil, fr_put_cons, fr_put_some, fr_put_none, fr_keep_nil, fr_keep_cons, fr_has_nil, fr_has_cons, Option.bind_some, Option.map_some, xbin, ibin, xresult_eq, xress_nil, xress_tmp, resV, ex_some, if_true, if_false, ite_true, ite_false, reduceIte, reduceCtorEq, Nat.reduceEqDiff, Nat.reduceLT, Nat.reduceLeDiff, Int.reduceLT, Int.reduceLE, Nat.zero_add, Nat.reduceAdd, Bool.false_eq_true, decide_eq_true_eq, decide_eq_false_iff_not, true_implies, false_implies, and_true, true_and, e4]
    subst hL
    refine ih (pre ++ [(c : Int)]) (q ++ gbits (grp c) 10) H' (i + 1) N Q w' (Sl.same hcd k'.1 fun b hb => let ⟨h1, h2, h3⟩ := hvc b hb; k'.2 b h1 h2 h3) (Byts.app1 (Sl.same hs k'.1 fun b hb => let ⟨h1, h2, h3⟩ := hvs b hb; k'.2 b h1 h2 h3)) (fun p hp => hb p (by simp [hp])) (by simp [gbits_len]; omega) (by simp; omega) (by simp; omega) (by simpa using hN) ?_
    intro H2 w2 kk2
    exact hq H2 (by simpa [qb] using w2) (k'.trans kk2)

theorem gcrWrite_ok (a : List Int) (cell : Int) (s : Value) (H : AH) (Q : Value → AH → Prop) (hs : Byts H s a) (h8 : B8 a) (hl : a.length ≤ 1000) (h2 : 2 ≤ cell) (h3 : cell ≤ 1000)
    (hq : ∀ v H', OwnI H.n H' v (pul cell (gaps (gfull a)).1) → HExt H H' → Q (.tuple [v, .int .i64 0].toArray) H') : Got (xc Try.prog tab 15 [s, .int .i64 cell] H) Q := by
  refine got_call (res := [.tmp 4, .tmp 5]) rfl ?_
  have e1 := byts_len' hs
  have c1 : ¬ (a.length : Int) > 2000 := by omega
  simp only [ofArgs, run_seq, run_block, run_ops, run_skip, run_exit, run_ret, thenQ_normal, thenQ_exit, thenQ_ret, blockQ_normal, blockQ_exit, blockQ_ret, retQ_ret, retQ_normal, ops_nil, ops_none, got_some, ops_wT, ops_wTn, ops_wF, ops_wFn, ops_wU, dops_wT, dops_wTn, dops_wF, dops_wFn, dops_wU, run_condT, run_condF, alt2_int, altB_bool, altI_int, altBB_bool, v_min, v_max, v_not, v_neg, optEv_none, optEv_some, isSome'_none, isSome'_some, pExt0, pExt1, pExt2, Bool.false_and, Bool.true_and, Bool.not_true, Bool.not_false, cond_true, cond_false, dops_nil, dops_none, xval_call, v_mov, v_bin, v_len, v_ext, v_idxA, v_ld, v_st, v_app, v_appN, v_cvs, v_bs1, pBs1, v_slc, v_conv, v_fld, v_fldA, v_new, v_box, v_mks, v_copy, v_isnil, v_nilck, v_pick, ev, evs_nil, evs_cons, fr_get_cons, fr_put_nil, fr_put_cons, fr_put_some, fr_put_none, fr_keep_nil, fr_keep_cons, fr_has_nil, fr_has_cons, Option.bind_some, Option.map_some, xbin, ibin, xresult_eq, xress_nil, xress_tmp, resV, ex_some, if_true, if_false, ite_true, ite_false, reduceIte, reduceCtorEq, Nat.reduceEqDiff, Nat.reduceLT, Nat.reduceLeDiff, Int.reduceLT, Int.reduceLE, Nat.zero_add, Nat.reduceAdd, Bool.false_eq_true, decide_eq_true_eq, decide_eq_false_iff_not, true_implies, false_implies, and_true, true_and, e1, c1, decide_false]
  refine codes_ok H _ ?_
  intro vc H1 oc x1
  have hn1 := x1.1
  have g1 : (((H1.push ⟨[.slice none 0 0], 1, false, false⟩).push ⟨[.int .i64 0], 1, false, false⟩)).get (H1.n + 1) = some ⟨[.int .i64 0], 1, false, false⟩ := by rw [AH.get_push, if_pos (by simp)]
  have e2 := pSt_box (u := .int .i64 0) g1 rfl rfl
  have x2 : HExt H1 ((((H1.push ⟨[.slice none 0 0], 1, false, false⟩).push ⟨[.int .i64 0], 1, false, false⟩)).set (H1.n + 1) ⟨[.int .i64 0], 1, false, false⟩) :=
    ⟨by show _ ≤ H1.n + 1 + 1; omega, fun b hb => by rw [AH.get_set, if_neg (by omega), AH.get_push, if_neg (by simp; omega), AH.get_push, if_neg (by omega)]⟩
  have p2 : ((((H1.push ⟨[.slice none 0 0], 1, false, false⟩).push ⟨[.int .i64 0], 1, false, false⟩)).set (H1.n + 1) ⟨[.int .i64 0], 1, false, false⟩).get H1.n = some ⟨[.slice none 0 0], 1, false, false⟩ := by
    rw [AH.get_set, if_neg (by omega), AH.get_push, if_neg (by simp), AH.get_push, if_pos rfl]
  have g2 : ((((H1.push ⟨[.slice none 0 0], 1, false, false⟩).push ⟨[.int .i64 0], 1, false, false⟩)).set (H1.n + 1) ⟨[.int .i64 0], 1, false, false⟩).get (H1.n + 1) = some ⟨[.int .i64 0], 1, false, false⟩ := by rw [AH.get_set, if_pos rfl]
  have hn2 : ((((H1.push ⟨[.slice none 0 0], 1, false, false⟩).push ⟨[.int .i64 0], 1, false, false⟩)).set (H1.n + 1) ⟨[.int .i64 0], 1, false, false⟩).n = H1.n + 2 := rfl
  simp only [ofArgs, run_seq, run_block, run_ops, run_skip, run_exit, run_ret, thenQ_normal, thenQ_exit, thenQ_ret, blockQ_normal, blockQ_exit, blockQ_ret, retQ_ret, retQ_normal, ops_nil, ops_none, got_some, ops_wT, ops_wTn, ops_wF, ops_wFn, ops_wU, dops_wT, dops_wTn, dops_wF, dops_wFn, dops_wU, run_condT, run_condF, alt2_int, altB_bool, altI_int, altBB_bool, v_min, v_max, v_not, v_neg, optEv_none, optEv_some, isSome'_none, isSome'_some, pExt0, pExt1, pExt2, Bool.false_and, Bool.true_and, Bool.not_true, Bool.not_false, cond_true, cond_false, dops_nil, dops_none, xval_call, v_mov, v_bin, v_len, v_ext, v_idxA, v_ld, v_st, v_app, v_appN, v_cvs, v_bs1, pBs1, v_slc, v_conv, v_fld, v_fldA, v_new, v_box, v_mks, v_copy, v_isnil, v_nilck, v_pick, ev, evs_nil, evs_cons, fr_get_cons, fr_put_nil, fr_put_cons, fr_put_some, fr_put_none, fr_keep_nil, fr_keep_cons, fr_has_nil, fr_has_cons, Option.bind_some, Option.map_some, xbin, ibin, xresult_eq, xress_nil, xress_tmp, resV, ex_some, if_true, if_false, ite_true, ite_false, reduceIte, reduceCtorEq, Nat.reduceEqDiff, Nat.reduceLT, Nat.reduceLeDiff, Int.reduceLT, Int.reduceLE, Nat.zero_add, Nat.reduceAdd, Bool.false_eq_true, decide_eq_true_eq, decide_eq_false_iff_not, true_implies, false_implies, and_true, true_and, AH.push_n, e2, v_mkf]
  generalize ((((H1.push ⟨[.slice none 0 0], 1, false, false⟩).push ⟨[.int .i64 0], 1, false, false⟩)).set (H1.n + 1) ⟨[.int .i64 0], 1, false, false⟩) = H2 at x2 p2 g2 hn2
  have s2 : Byts H2 s a := Sl.ext (x1.trans x2) hs
  have e3 := byts_len' s2
  have hw : Wg (H1.n + 2) H2 H1.n (H1.n + 1) [] := ⟨by omega, by omega, by omega, by omega, .slice none 0 0, p2, g2, Own.nil _ _ _⟩
  simp only [ofArgs, run_seq, run_block, run_ops, run_skip, run_exit, run_ret, thenQ_normal, thenQ_exit, thenQ_ret, blockQ_normal, blockQ_exit, blockQ_ret, retQ_ret, retQ_normal, ops_nil, ops_none, got_some, ops_wT, ops_wTn, ops_wF, ops_wFn, ops_wU, dops_wT, dops_wTn, dops_wF, dops_wFn, dops_wU, run_condT, run_condF, alt2_int, altB_bool, altI_int, altBB_bool, v_min, v_max, v_not, v_neg, optEv_none, optEv_some, isSome'_none, isSome'_some, pExt0, pExt1, pExt2, Bool.false_and, Bool.true_and, Bool.not_true, Bool.not_false, cond_true, cond_false, dops_nil, dops_none, xval_call, v_mov, v_bin, v_len, v_ext, v_idxA, v_ld, v_st, v_app, v_appN, v_cvs, v_bs1, pBs1, v_slc, v_conv, v_fld, v_fldA, v_new, v_box, v_mks, v_copy, v_isnil, v_nilck, v_pick, ev, evs_nil, evs_cons, fr_get_cons, fr_put_nil, fr_put_cons, fr_put_some, fr_put_none, fr_keep_nil, fr_keep_cons, fr_has_nil, fr_has_cons, Option.bind_some, Option.map_some, xbin, ibin, xresult_eq, xress_nil, xress_tmp, resV, ex_some, if_true, if_false, ite_true, ite_false, reduceIte, reduceCtorEq, Nat.reduceEqDiff, Nat.reduceLT, Nat.reduceLeDiff, Int.reduceLT, Int.reduceLE, Nat.zero_add, Nat.reduceAdd, Bool.false_eq_true, decide_eq_true_eq, decide_eq_false_iff_not, true_implies, false_implies, and_true, true_and, e3]
  refine gw_l1 (H1.n + 2) H1.n (H1.n + 1) vc _ cell rfl s (fun b hb => by have := Sl.lt hs hb; omega) (fun b hb => by have := oc.ints.lt b hb; omega) a [] [] H2 0 _ _ hw (Sl.ext x2 oc.ints) s2 h8 (by simp; omega) (by simp; omega) (by simp) (by simp) ?_
  intro H3 w3 k3
  have ea : ∀ x : Value, (#[] : Array Value).toList ++ [x] ++ (#[.pointer (some ⟨H1.n + 1, 0, none⟩), .pointer (some ⟨H1.n, 0, none⟩)] : Array Value).toList = [x, .pointer (some ⟨H1.n + 1, 0, none⟩), .pointer (some ⟨H1.n, 0, none⟩)] := fun _ => rfl
  have ea' : ([] : List Value).toArray.toList ++ [.bool true] ++ ([.pointer (some ⟨H1.n + 1, 0, none⟩), .pointer (some ⟨H1.n, 0, none⟩)] : List Value).toArray.toList = [.bool true, .pointer (some ⟨H1.n + 1, 0, none⟩), .pointer (some ⟨H1.n, 0, none⟩)] := rfl
  simp only [ofArgs, run_seq, run_block, run_ops, run_skip, run_exit, run_ret, thenQ_normal, thenQ_exit, thenQ_ret, blockQ_normal, blockQ_exit, blockQ_ret, retQ_ret, retQ_normal, ops_nil, ops_none, got_some, ops_wT, ops_wTn, ops_wF, ops_wFn, ops_wU, dops_wT, dops_wTn, dops_wF, dops_wFn, dops_wU, run_condT, run_condF, alt2_int, altB_bool, altI_int, altBB_bool, v_min, v_max, v_not, v_neg, optEv_none, optEv_some, isSome'_none, isSome'_some, pExt0, pExt1, pExt2, Bool.false_and, Bool.true_and, Bool.not_true, Bool.not_false, cond_true, cond_false, dops_nil, dops_none, xval_call, v_mov, v_bin, v_len, v_ext, v_idxA, v_ld, v_st, v_app, v_appN, v_cvs, v_bs1, pBs1, v_slc, v_conv, v_fld, v_fldA, v_new, v_box, v_mks, v_copy, v_isnil, v_nilck, v_pick, ev, evs_nil, evs_cons, fr_get_cons, fr_put_nil, fr_put_cons, fr_put_some, fr_put_none, fr_keep_nil, fr_keep_cons, fr_has_nil, fr_has_cons, Option.bind_some, Option.map_some, xbin, ibin, xresult_eq, xress_nil, xress_tmp, resV, ex_some, if_true, if_false, ite_true, ite_false, reduceIte, reduceCtorEq, Nat.reduceEqDiff, Nat.reduceLT, Nat.reduceLeDiff, Int.reduceLT, Int.reduceLE, Nat.zero_add, Nat.reduceAdd, Bool.false_eq_true, decide_eq_true_eq, decide_eq_false_iff_not, true_implies, false_implies, and_true, true_and, v_callv, pCallV_func, ea, ea']
  refine place_g (H1.n + 2) H3 H1.n (H1.n + 1) _ true _ w3 (by simp [qb_len]; omega) ?_
  intro H4 w4 k4
  have hfull : [] ++ qb a ++ [true] = gfull a := by simp [gfull]
  rw [hfull] at w4
  obtain ⟨_, _, _, hn4, vl, p4, g4, o4⟩ := w4
  have e5 := pLd_box p4
  have gb := gfull_gb a h8
  have glen := (gaps_len (gfull a)).1
  have hlg : (gfull a).length = 10 * a.length + 1 := by simp [gfull, qb_len]
  simp only [ofArgs, run_seq, run_block, run_ops, run_skip, run_exit, run_ret, thenQ_normal, thenQ_exit, thenQ_ret, blockQ_normal, blockQ_exit, blockQ_ret, retQ_ret, retQ_normal, ops_nil, ops_none, got_some, ops_wT, ops_wTn, ops_wF, ops_wFn, ops_wU, dops_wT, dops_wTn, dops_wF, dops_wFn, dops_wU, run_condT, run_condF, alt2_int, altB_bool, altI_int, altBB_bool, v_min, v_max, v_not, v_neg, optEv_none, optEv_some, isSome'_none, isSome'_some, pExt0, pExt1, pExt2, Bool.false_and, Bool.true_and, Bool.not_true, Bool.not_false, cond_true, cond_false, dops_nil, dops_none, xval_call, v_mov, v_bin, v_len, v_ext, v_idxA, v_ld, v_st, v_app, v_appN, v_cvs, v_bs1, pBs1, v_slc, v_conv, v_fld, v_fldA, v_new, v_box, v_mks, v_copy, v_isnil, v_nilck, v_pick, ev, evs_nil, evs_cons, fr_get_cons, fr_put_nil, fr_put_cons, fr_put_some, fr_put_none, fr_keep_nil, fr_keep_cons, fr_has_nil, fr_has_cons, Option.bind_some, Option.map_some, xbin, ibin, xresult_eq, xress_nil, xress_tmp, resV, ex_some, if_true, if_false, ite_true, ite_false, reduceIte, reduceCtorEq, Nat.reduceEqDiff, Nat.reduceLT, Nat.reduceLeDiff, Int.reduceLT, Int.reduceLE, Nat.zero_add, Nat.reduceAdd, Bool.false_eq_true, decide_eq_true_eq, decide_eq_false_iff_not, true_implies, false_implies, and_true, true_and, e5]
  refine pulses_ok _ cell vl H4 _ o4.ints (by omega) h2 h3 (fun x hx => by have := gb.1 x hx; omega) ?_
  intro v H5 o5 x5
  simp only [ofArgs, run_seq, run_block, run_ops, run_skip, run_exit, run_ret, thenQ_normal, thenQ_exit, thenQ_ret, blockQ_normal, blockQ_exit, blockQ_ret, retQ_ret, retQ_normal, ops_nil, ops_none, got_some, ops_wT, ops_wTn, ops_wF, ops_wFn, ops_wU, dops_wT, dops_wTn, dops_wF, dops_wFn, dops_wU, run_condT, run_condF, alt2_int, altB_bool, altI_int, altBB_bool, v_min, v_max, v_not, v_neg, optEv_none, optEv_some, isSome'_none, isSome'_some, pExt0, pExt1, pExt2, Bool.false_and, Bool.true_and, Bool.not_true, Bool.not_false, cond_true, cond_false, dops_nil, dops_none, xval_call, v_mov, v_bin, v_len, v_ext, v_idxA, v_ld, v_st, v_app, v_appN, v_cvs, v_bs1, pBs1, v_slc, v_conv, v_fld, v_fldA, v_new, v_box, v_mks, v_copy, v_isnil, v_nilck, v_pick, ev, evs_nil, evs_cons, fr_get_cons, fr_put_nil, fr_put_cons, fr_put_some, fr_put_none, fr_keep_nil, fr_keep_cons, fr_has_nil, fr_has_cons, Option.bind_some, Option.map_some, xbin, ibin, xresult_eq, xress_nil, xress_tmp, resV, ex_some, if_true, if_false, ite_true, ite_false, reduceIte, reduceCtorEq, Nat.reduceEqDiff, Nat.reduceLT, Nat.reduceLeDiff, Int.reduceLT, Int.reduceLE, Nat.zero_add, Nat.reduceAdd, Bool.false_eq_true, decide_eq_true_eq, decide_eq_false_iff_not, true_implies, false_implies, and_true, true_and]
  refine hq v H5 (o5.le (by omega)) ?_
  exact Keep.trans (n0 := H.n) (x1.trans x2) (Keep.trans ((k3.trans k4).keep hn1 (by omega) (by omega)) (HExt.keep x5 (by omega)))
end Go.Proofs.Ytejedmocjdcdgaa.D
