/- What functions that the law reaches compute, on a heap of the run's own: the conditions stand in each theorem. -/
import Derived.Test.YtejedmocjdcdgaaMfA
set_option linter.unusedSimpArgs false
set_option linter.unusedVariables false
namespace Go.Proofs.Ytejedmocjdcdgaa.D
open Go Go.Det

/-! ### closures -/
def pCallV (c : XCall) (g : Value) (vs : List Value) (H : AH) : Option (Value × AH) :=
  match g with
  | .func (.func f) first caps => c f (first.toList ++ vs ++ caps.toList) H
  | _ => none
theorem v_callv {P : Program} {T : XTab} (fr : Fr) (H : AH) (dd : Option Nat) (y : Operand) (args : List Operand) : xval P (xc P T) ⟨dd, .callv y args, none⟩ fr H = (ev fr y).bind fun g => (evs fr args).bind fun vs => pCallV (xc P T) g vs H := by
  unfold xval
  simp only [xwanted]
  rcases ev fr y with _ | g
  · rfl
  rcases evs fr args with _ | vs
  · cases g <;> try rfl
    rename_i fn a b
    cases fn <;> rfl
  cases g <;> try rfl
  rename_i fn a b
  cases fn <;> rfl
theorem pCallV_func (c : XCall) (f : FuncId) (first caps : Array Value) (vs : List Value) (H : AH) : pCallV c (.func (.func f) first caps) vs H = c f (first.toList ++ vs ++ caps.toList) H := rfl
theorem v_mkf {P : Program} {T : XTab} (fr : Fr) (H : AH) (dd : Option Nat) (f : FuncId) (args caps : List Operand) : xval P (xc P T) ⟨dd, .mkf (.func f) args caps, none⟩ fr H = (evs fr args).bind fun a => (evs fr caps).map fun b => (.func (.func f) a.toArray b.toArray, H) := by
  rw [xval_op dd _ fr H rfl]
  simp only [xop]
  rcases evs fr args with _ | a
  · rfl
  rcases evs fr caps with _ | b <;> rfl

/-! ### the writer of gcr -/
def Wg (n0 : Nat) (H : AH) (P G : Nat) (q : List Bool) : Prop :=
  P < n0 ∧ G < n0 ∧ P ≠ G ∧ n0 ≤ H.n ∧ ∃ vl, H.get P = some ⟨[vl], 1, false, false⟩ ∧ H.get G = some ⟨[.int .i64 ((gaps q).2 : Nat)], 1, false, false⟩ ∧ OwnI n0 H vl (gaps q).1
def KeepG (n0 P G : Nat) (H H' : AH) : Prop := H.n ≤ H'.n ∧ ∀ b, b < n0 → b ≠ P → b ≠ G → H'.get b = H.get b
theorem KeepG.refl (n0 P G : Nat) (H : AH) : KeepG n0 P G H H := ⟨Nat.le_refl _, fun _ _ _ _ => rfl⟩
theorem KeepG.trans {n0 P G : Nat} {A B C : AH} (h : KeepG n0 P G A B) (k : KeepG n0 P G B C) : KeepG n0 P G A C := ⟨Nat.le_trans h.1 k.1, fun b hb h1 h2 => (k.2 b hb h1 h2).trans (h.2 b hb h1 h2)⟩
theorem KeepG.keep {n0 P G m : Nat} {A B : AH} (h : KeepG n0 P G A B) (h1 : m ≤ P) (h2 : m ≤ G) (h3 : m ≤ n0) : Keep m A B := ⟨h.1, fun b hb => h.2 b (by omega) (by omega) (by omega)⟩

theorem place_g (n0 : Nat) (H : AH) (P G : Nat) (q : List Bool) (b : Bool) (Q : Value → AH → Prop) (hw : Wg n0 H P G q) (hq2 : q.length ≤ 100000) (hq : ∀ H', Wg n0 H' P G (q ++ [b]) → KeepG n0 P G H H' → Q (.tuple #[]) H') :
    Got (xc Try.prog tab 61 [.bool b, .pointer (some ⟨G, 0, none⟩), .pointer (some ⟨P, 0, none⟩)] H) Q := by
  refine got_call (res := []) rfl ?_
  obtain ⟨hP, hG, hPG, hn, vl, hp, hg, ho⟩ := hw
  have hgl := gaps_len q
  have e1 := pLd_box hg
  have w1 := wrI ((((gaps q).2 : Nat) : Int) + 1) (by omega) (by omega)
  have e2 := pSt_box (u := .int .i64 ((((gaps q).2 : Nat) : Int) + 1)) hg rfl rfl
  have g2 : (H.set G ⟨[.int .i64 ((((gaps q).2 : Nat) : Int) + 1)], 1, false, false⟩).get G = some ⟨[.int .i64 ((((gaps q).2 : Nat) : Int) + 1)], 1, false, false⟩ := by rw [AH.get_set, if_pos rfl]
  have p2 : (H.set G ⟨[.int .i64 ((((gaps q).2 : Nat) : Int) + 1)], 1, false, false⟩).get P = some ⟨[vl], 1, false, false⟩ := by rw [AH.get_set, if_neg hPG]; exact hp
  have ho2 : OwnI n0 (H.set G ⟨[.int .i64 ((((gaps q).2 : Nat) : Int) + 1)], 1, false, false⟩) vl (gaps q).1 := by
    refine Own.set ho rfl fun b hb => ?_
    obtain ⟨o, l, c, e⟩ := hb
    have := (ho.2 b o l c e).1
    rw [AH.get_set, if_neg (by omega)]
  have k2 : KeepG n0 P G H (H.set G ⟨[.int .i64 ((((gaps q).2 : Nat) : Int) + 1)], 1, false, false⟩) := ⟨Nat.le_refl _, fun b _ _ hb => by rw [AH.get_set, if_neg hb]⟩
  have hn2 : (H.set G ⟨[.int .i64 ((((gaps q).2 : Nat) : Int) + 1)], 1, false, false⟩).n = H.n := rfl
  cases b with
  | false =>
    simp only [ofArgs, run_seq, run_block, run_ops, run_skip, run_exit, run_ret, thenQ_normal, thenQ_exit, thenQ_ret, blockQ_normal, blockQ_exit, blockQ_ret, retQ_ret, retQ_normal, ops_nil, ops_none, got_some, ops_wT, ops_wTn, ops_wF, ops_wFn, ops_wU, dops_wT, dops_wTn, dops_wF, dops_wFn, dops_wU, run_condT, run_condF, alt2_int, altB_bool, altI_int, altBB_bool, v_min, v_max, v_not, v_neg, optEv_none, optEv_some, isSome'_none, isSome'_some, pExt0, pExt1, pExt2, Bool.false_and, Bool.true_and, Bool.not_true, Bool.not_false, cond_true, cond_false, dops_nil, dops_none, xval_call, v_mov, v_bin, v_len, v_ext, v_idxA, v_ld, v_st, v_app, v_appN, v_cvs, v_bs1, pBs1, v_slc, v_conv, v_fld, v_fldA, v_new, v_box, v_mks, v_copy, v_isnil, v_nilck, v_pick, ev, evs_nil, evs_cons, fr_get_cons, fr_put_nil, fr_put_cons, fr_put_some, fr_put_none, fr_keep_nil, fr_keep_cons, fr_has_nil, fr_has_cons, Option.bind_some, Option.map_some, xbin, ibin, xresult_eq, xress_nil, xress_tmp, resV, ex_some, if_true, if_false, ite_true, ite_false, reduceIte, reduceCtorEq, Nat.reduceEqDiff, Nat.reduceLT, Nat.reduceLeDiff, Int.reduceLT, Int.reduceLE, Nat.zero_add, Nat.reduceAdd, Bool.false_eq_true, decide_eq_true_eq, decide_eq_false_iff_not, true_implies, false_implies, and_true, true_and, e1, w1, e2]
    refine hq _ ⟨hP, hG, hPG, by omega, vl, p2, ?_, ?_⟩ k2
    · rw [gaps_snoc]; exact g2
    · rw [gaps_snoc]; exact ho2
  | true =>
    simp only [ofArgs, run_seq, run_block, run_ops, run_skip, run_exit, run_ret, thenQ_normal, thenQ_exit, thenQ_ret, blockQ_normal, blockQ_exit, blockQ_ret, retQ_ret, retQ_normal, ops_nil, ops_none, got_some, ops_wT, ops_wTn, ops_wF, ops_wFn, ops_wU, dops_wT, dops_wTn, dops_wF, dops_wFn, dops_wU, run_condT, run_condF, alt2_int, altB_bool, altI_int, altBB_bool, v_min, v_max, v_not, v_neg, optEv_none, optEv_some, isSome'_none, isSome'_some, pExt0, pExt1, pExt2, Bool.false_and, Bool.true_and, Bool.not_true, Bool.not_false, cond_true, cond_false, dops_nil, dops_none, xval_call, v_mov, v_bin, v_len, v_ext, v_idxA, v_ld, v_st, v_app, v_appN, v_cvs, v_bs1, pBs1, v_slc, v_conv, v_fld, v_fldA, v_new, v_box, v_mks, v_copy, v_isnil, v_nilck, v_pick, ev, evs_nil, evs_cons, fr_get_cons, fr_put_nil, fr_put_cons, fr_put_some, fr_put_none, fr_keep_nil, fr_keep_cons, fr_has_nil, fr_has_cons, Option.bind_some, Option.map_some, xbin, ibin, xresult_eq, xress_nil, xress_tmp, resV, ex_some, if_true, if_false, ite_true, ite_false, reduceIte, reduceCtorEq, Nat.reduceEqDiff, Nat.reduceLT, Nat.reduceLeDiff, Int.reduceLT, Int.reduceLE, Nat.zero_add, Nat.reduceAdd, Bool.false_eq_true, decide_eq_true_eq, decide_eq_false_iff_not, true_implies, false_implies, and_true, true_and, e1, w1, e2]
    generalize (H.set G ⟨[.int .i64 ((((gaps q).2 : Nat) : Int) + 1)], 1, false, false⟩) = H2 at g2 p2 ho2 k2 hn2
    have e3 := pLd_box p2
    have e4 := pLd_box g2
    simp only [ofArgs, run_seq, run_block, run_ops, run_skip, run_exit, run_ret, thenQ_normal, thenQ_exit, thenQ_ret, blockQ_normal, blockQ_exit, blockQ_ret, retQ_ret, retQ_normal, ops_nil, ops_none, got_some, ops_wT, ops_wTn, ops_wF, ops_wFn, ops_wU, dops_wT, dops_wTn, dops_wF, dops_wFn, dops_wU, run_condT, run_condF, alt2_int, altB_bool, altI_int, altBB_bool, v_min, v_max, v_not, v_neg, optEv_none, optEv_some, isSome'_none, isSome'_some, pExt0, pExt1, pExt2, Bool.false_and, Bool.true_and, Bool.not_true, Bool.not_false, cond_true, cond_false, dops_nil, dops_none, xval_call, v_mov, v_bin, v_len, v_ext, v_idxA, v_ld, v_st, v_app, v_appN, v_cvs, v_bs1, pBs1, v_slc, v_conv, v_fld, v_fldA, v_new, v_box, v_mks, v_copy, v_isnil, v_nilck, v_pick, ev, evs_nil, evs_cons, fr_get_cons, fr_put_nil, fr_put_cons, fr_put_some, fr_put_none, fr_keep_nil, fr_keep_cons, fr_has_nil, fr_has_cons, Option.bind_some, Option.map_some, xbin, ibin, xresult_eq, xress_nil, xress_tmp, resV, ex_some, if_true, if_false, ite_true, ite_false, reduceIte, reduceCtorEq, Nat.reduceEqDiff, Nat.reduceLT, Nat.reduceLeDiff, Int.reduceLT, Int.reduceLE, Nat.zero_add, Nat.reduceAdd, Bool.false_eq_true, decide_eq_true_eq, decide_eq_false_iff_not, true_implies, false_implies, and_true, true_and, e3, e4]
    refine app_one ho2 (by omega) (by omega) ?_
    intro vl' H3 o3 st
    have hWv : ∀ b, b < n0 → ¬ inB vl b := fun b hb ⟨o, l, c, e⟩ => by have := (ho2.2 b o l c e).1; omega
    have p3 : H3.get P = some ⟨[vl], 1, false, false⟩ := by rw [st.get P (by omega) (hWv P hP)]; exact p2
    have g3 : H3.get G = some ⟨[.int .i64 ((((gaps q).2 : Nat) : Int) + 1)], 1, false, false⟩ := by rw [st.get G (by omega) (hWv G hG)]; exact g2
    obtain ⟨s1, s2⟩ := sl_slice o3.1
    have e5 := pSt_box (u := vl') p3 s1 s2
    have g4 : (H3.set P ⟨[vl'], 1, false, false⟩).get G = some ⟨[.int .i64 ((((gaps q).2 : Nat) : Int) + 1)], 1, false, false⟩ := by rw [AH.get_set, if_neg (fun e => hPG e.symm)]; exact g3
    have e6 := pSt_box (u := .int .i64 0) g4 rfl rfl
    have hn3 := st.n
    simp only [ofArgs, run_seq, run_block, run_ops, run_skip, run_exit, run_ret, thenQ_normal, thenQ_exit, thenQ_ret, blockQ_normal, blockQ_exit, blockQ_ret, retQ_ret, retQ_normal, ops_nil, ops_none, got_some, ops_wT, ops_wTn, ops_wF, ops_wFn, ops_wU, dops_wT, dops_wTn, dops_wF, dops_wFn, dops_wU, run_condT, run_condF, alt2_int, altB_bool, altI_int, altBB_bool, v_min, v_max, v_not, v_neg, optEv_none, optEv_some, isSome'_none, isSome'_some, pExt0, pExt1, pExt2, Bool.false_and, Bool.true_and, Bool.not_true, Bool.not_false, cond_true, cond_false, dops_nil, dops_none, xval_call, v_mov, v_bin, v_len, v_ext, v_idxA, v_ld, v_st, v_app, v_appN, v_cvs, v_bs1, pBs1, v_slc, v_conv, v_fld, v_fldA, v_new, v_box, v_mks, v_copy, v_isnil, v_nilck, v_pick, ev, evs_nil, evs_cons, fr_get_cons, fr_put_nil, fr_put_cons, fr_put_some, fr_put_none, fr_keep_nil, fr_keep_cons, fr_has_nil, fr_has_cons, Option.bind_some, Option.map_some, xbin, ibin, xresult_eq, xress_nil, xress_tmp, resV, ex_some, if_true, if_false, ite_true, ite_false, reduceIte, reduceCtorEq, Nat.reduceEqDiff, Nat.reduceLT, Nat.reduceLeDiff, Int.reduceLT, Int.reduceLE, Nat.zero_add, Nat.reduceAdd, Bool.false_eq_true, decide_eq_true_eq, decide_eq_false_iff_not, true_implies, false_implies, and_true, true_and, e5, e6]
    refine hq _ ⟨hP, hG, hPG, by show n0 ≤ H3.n; omega, vl', ?_, ?_, ?_⟩ ?_
    · rw [AH.get_set, if_neg hPG, AH.get_set, if_pos rfl]
    · rw [gaps_snoc, AH.get_set, if_pos rfl]; rfl
    · rw [gaps_snoc]
      have ho3 : OwnI n0 H3 vl' ((gaps q).1 ++ [((((gaps q).2 + 1 : Nat)) : Int)]) := o3
      refine Own.set ho3 rfl fun b hb => ?_
      obtain ⟨o, l, c, e⟩ := hb
      have := (o3.2 b o l c e).1
      rw [AH.get_set, if_neg (by omega), AH.get_set, if_neg (by omega)]
    · refine k2.trans ⟨hn3, fun b hb h1 h2 => ?_⟩
      rw [AH.get_set, if_neg h2, AH.get_set, if_neg h1, st.get b (by omega) (hWv b hb)]

def CODES : List Int := [9, 10, 11, 13, 14, 15, 18, 19, 21, 22, 23, 25, 26, 27, 29, 30]
def codeAt (i : Nat) : Nat := ([9, 10, 11, 13, 14, 15, 18, 19, 21, 22, 23, 25, 26, 27, 29, 30] : List Nat).getD i 0
/-- the bits of a number, the highest first -/
def gbits (g : Nat) : Nat → List Bool
  | 0 => []
  | r + 1 => g.testBit r :: gbits g r
theorem gbits_len (g r : Nat) : (gbits g r).length = r := by
  induction r with
  | zero => rfl
  | succ r ih => simp [gbits, ih]
def grp (c : Nat) : Nat := (codeAt (c / 16) * 32) ||| codeAt (c % 16)
def qb : List Int → List Bool
  | [] => []
  | c :: l => gbits (grp c.toNat) 10 ++ qb l
theorem qb_len (l : List Int) : (qb l).length = 10 * l.length := by
  induction l with
  | nil => rfl
  | cons c l ih => simp [qb, gbits_len, ih]; omega

theorem codes_ok (H : AH) (Q : Value → AH → Prop) (hq : ∀ v H', OwnI H.n H' v CODES → HExt H H' → Q v H') : Got (xc Try.prog tab 60 [] H) Q := by
  refine got_call (res := [.tmp 0]) rfl ?_
  have eb : ∀ (fr : Fr) (H : AH), xval Try.prog (xc Try.prog tab) ⟨some 1, .bslice 3 1 16 [.int .i64 0] [(0, .const (.int .i64 9)), (1, .const (.int .i64 10)), (2, .const (.int .i64 11)), (3, .const (.int .i64 13)), (4, .const (.int .i64 14)), (5, .const (.int .i64 15)), (6, .const (.int .i64 18)), (7, .const (.int .i64 19)), (8, .const (.int .i64 21)), (9, .const (.int .i64 22)), (10, .const (.int .i64 23)), (11, .const (.int .i64 25)), (12, .const (.int .i64 26)), (13, .const (.int .i64 27)), (14, .const (.int .i64 29)), (15, .const (.int .i64 30))], none⟩ fr H =
      some (.slice (some ⟨H.n, 0, none⟩) 16 16, H.push ⟨CODES.map (.int .i64), 1, false, false⟩) := fun _ _ => rfl
  simp only [ofArgs, run_seq, run_block, run_ops, run_skip, run_exit, run_ret, thenQ_normal, thenQ_exit, thenQ_ret, blockQ_normal, blockQ_exit, blockQ_ret, retQ_ret, retQ_normal, ops_nil, ops_none, got_some, ops_wT, ops_wTn, ops_wF, ops_wFn, ops_wU, dops_wT, dops_wTn, dops_wF, dops_wFn, dops_wU, run_condT, run_condF, alt2_int, altB_bool, altI_int, altBB_bool, v_min, v_max, v_not, v_neg, optEv_none, optEv_some, isSome'_none, isSome'_some, pExt0, pExt1, pExt2, Bool.false_and, Bool.true_and, Bool.not_true, Bool.not_false, cond_true, cond_false, dops_nil, dops_none, xval_call, v_mov, v_bin, v_len, v_ext, v_idxA, v_ld, v_st, v_app, v_appN, v_cvs, v_bs1, pBs1, v_slc, v_conv, v_fld, v_fldA, v_new, v_box, v_mks, v_copy, v_isnil, v_nilck, v_pick, ev, evs_nil, evs_cons, fr_get_cons, fr_put_nil, fr_put_cons, fr_put_some, fr_put_none, fr_keep_nil, fr_keep_cons, fr_has_nil, fr_has_cons, Option.bind_some, Option.map_some, xbin, ibin, xresult_eq, xress_nil, xress_tmp, resV, ex_some, if_true, if_false, ite_true, ite_false, reduceIte, reduceCtorEq, Nat.reduceEqDiff, Nat.reduceLT, Nat.reduceLeDiff, Int.reduceLT, Int.reduceLE, Nat.zero_add, Nat.reduceAdd, Bool.false_eq_true, decide_eq_true_eq, decide_eq_false_iff_not, true_implies, false_implies, and_true, true_and, eb]
  exact hq _ _ (Own.pushed H (CODES.map (.int .i64)) 1 16 false rfl) (hext_push _ _)
theorem codes_get (i : Nat) (h : i < 16) : CODES[i]? = some (codeAt i : Int) := by
  revert i; decide

theorem gw_l0 (n0 P G g : Nat) (hg : g < 1024) (vc vs fn : Value) (cell N i : Int) (hfn : fn = .func (.func 61) #[] #[.pointer (some ⟨G, 0, none⟩), .pointer (some ⟨P, 0, none⟩)]) (r : Nat) : ∀ (q : List Bool) (H : AH) (j : Int) (Q : XExit → Fr → AH → Prop), Wg n0 H P G q → q.length + r ≤ 90000 → r ≤ 10 → j = (r : Int) - 1 →
    (∀ H', Wg n0 H' P G (q ++ gbits g r) → KeepG n0 P G H H' → Q (.exit 2) [(1, .int .i64 cell), (6, vc), (7, .pointer (some ⟨P, 0, none⟩)), (9, fn), (12, .int .i64 g), (13, .int .i64 (-1)), (19, vs), (20, .int .i64 N), (21, .int .i64 i), (38, .bool false)] H') →
    Run Try.prog tab (.loop xgcr_Write_l0) [(1, .int .i64 cell), (6, vc), (7, .pointer (some ⟨P, 0, none⟩)), (9, fn), (12, .int .i64 g), (13, .int .i64 j), (19, vs), (20, .int .i64 N), (21, .int .i64 i)] H Q := by
  subst hfn
  induction r with
  | zero =>
    intro q H j Q hw hl hr hj hq
    rw [run_loop]
    generalize hL : XCode.loop xgcr_Write_l0 = L
    obtain rfl : j = -1 := by omega
    have c1 : ¬ (-1 : Int) ≥ 0 := by omega
    simp only [xgcr_Write_l0, ofArgs, run_seq, run_block, run_ops, run_skip, run_exit, run_ret, thenQ_normal, thenQ_exit, thenQ_ret, blockQ_normal, blockQ_exit, blockQ_ret, retQ_ret, retQ_normal, ops_nil, ops_none, got_some, ops_wT, ops_wTn, ops_wF, ops_wFn, ops_wU, dops_wT, dops_wTn, dops_wF, dops_wFn, dops_wU, run_condT, run_condF, alt2_int, altB_bool, altI_int, altBB_bool, v_min, v_max, v_not, v_neg, optEv_none, optEv_some, isSome'_none, isSome'_some, pExt0, pExt1, pExt2, Bool.false_and, Bool.true_and, Bool.not_true, Bool.not_false, cond_true, cond_false, dops_nil, dops_none, xval_call, v_mov, v_bin, v_len, v_ext, v_idxA, v_ld, v_st, v_app, v_appN, v_cvs, v_bs1, pBs1, v_slc, v_conv, v_fld, v_fldA, v_new, v_box, v_mks, v_copy, v_isnil, v_nilck, v_pick, ev, evs_nil, evs_cons, fr_get_cons, fr_put_nil, fr_put_cons, fr_put_some, fr_put_none, fr_keep_nil, fr_keep_cons, fr_has_nil, fr_has_cons, Option.bind_some, Option.map_some, xbin, ibin, xresult_eq, xress_nil, xress_tmp, resV, ex_some, if_true, if_false, ite_true, ite_false, reduceIte, reduceCtorEq, Nat.reduceEqDiff, Nat.reduceLT, Nat.reduceLeDiff, Int.reduceLT, Int.reduceLE, Nat.zero_add, Nat.reduceAdd, Bool.false_eq_true, decide_eq_true_eq, decide_eq_false_iff_not, true_implies, false_implies, and_true, true_and, c1, decide_false]
    exact hq H (by simpa [gbits] using hw) (.refl _ _ _ _)
  | succ r ih =>
    intro q H j Q hw hl hr hj hq
    rw [run_loop]
    generalize hL : XCode.loop xgcr_Write_l0 = L
    obtain rfl : j = (r : Int) := by omega
    have c1 : (r : Int) ≥ 0 := by omega
    have c2 : ¬ (r : Int) < 0 := by omega
    have t1 : min (Int.toNat (r : Int)) IntKind.i64.bits = r := by
      rw [Int.toNat_natCast]; show min _ 64 = _; omega
    have t2 := shrN g r
    have t3 := n_and (g >>> r) 1 (by rw [Nat.shiftRight_eq_div_pow]; exact Nat.lt_of_le_of_lt (Nat.div_le_self _ _) (by omega)) (by omega)
    have n1 : ((1 : Nat) : Int) = 1 := rfl
    rw [n1] at t3
    have t4 := and1 g r
    have w1 := wrI ((r : Int) - 1) (by omega) (by omega)
    have ea : ∀ x : Value, (#[] : Array Value).toList ++ [x] ++ (#[.pointer (some ⟨G, 0, none⟩), .pointer (some ⟨P, 0, none⟩)] : Array Value).toList = [x, .pointer (some ⟨G, 0, none⟩), .pointer (some ⟨P, 0, none⟩)] := fun _ => rfl
    simp only [xgcr_Write_l0, ofArgs, run_seq, run_block, run_ops, run_skip, run_exit, run_ret, thenQ_normal, thenQ_exit, thenQ_ret, blockQ_normal, blockQ_exit, blockQ_ret, retQ_ret, retQ_normal, ops_nil, ops_none, got_some, ops_wT, ops_wTn, ops_wF, ops_wFn, ops_wU, dops_wT, dops_wTn, dops_wF, dops_wFn, dops_wU, run_condT, run_condF, alt2_int, altB_bool, altI_int, altBB_bool, v_min, v_max, v_not, v_neg, optEv_none, optEv_some, isSome'_none, isSome'_some, pExt0, pExt1, pExt2, Bool.false_and, Bool.true_and, Bool.not_true, Bool.not_false, cond_true, cond_false, dops_nil, dops_none, xval_call, v_mov, v_bin, v_len, v_ext, v_idxA, v_ld, v_st, v_app, v_appN, v_cvs, v_bs1, pBs1, v_slc, v_conv, v_fld, v_fldA, v_new, v_box, v_mks, v_copy, v_isnil, v_nilck, v_pick, ev, evs_nil, evs_cons, fr_get_cons, fr_put_nil, fr_put_cons, fr_put_some, fr_put_none, fr_keep_nil, fr_keep_cons, fr_has_nil, fr_has_cons, Option.bind_some, Option.map_some, xbin, ibin, xresult_eq, xress_nil, xress_tmp, resV, ex_some, if_true, if_false, ite_true, ite_false, reduceIte, reduceCtorEq, Nat.reduceEqDiff, Nat.reduceLT, Nat.reduceLeDiff, Int.reduceLT, Int.reduceLE, Nat.zero_add, Nat.reduceAdd, Bool.false_eq_true, decide_eq_true_eq, decide_eq_false_iff_not, true_implies, false_implies, and_true, true_and, c1, c2, t1, t2, t3, t4, decide_true, decide_false, v_callv, pCallV_func, ea]
    refine place_g n0 H P G q (g.testBit r) _ hw (by omega) ?_
    intro H' w' k'
    simp only [ofArgs, run_seq, run_block, run_ops, run_skip, run_exit, run_ret, thenQ_normal, thenQ_exit, thenQ_ret, blockQ_normal, blockQ_exit, blockQ_ret, retQ_ret, retQ_normal, ops_nil, ops_none, got_some, ops_wT, ops_wTn, ops_wF, ops_wFn, ops_wU, dops_wT, dops_wTn, dops_wF, dops_wFn, dops_wU, run_condT, run_condF, alt2_int, altB_bool, altI_int, altBB_bool, v_min, v_max, v_not, v_neg, optEv_none, optEv_some, isSome'_none, isSome'_some, pExt0, pExt1, pExt2, Bool.false_and, Bool.true_and, Bool.not_true, Bool.not_false, cond_true, cond_false, dops_nil, dops_none, xval_call, v_mov, v_bin, v_len, v_ext, v_idxA, v_ld, v_st, v_app, v_appN, v_cvs, v_bs1, pBs1, v_slc, v_conv, v_fld, v_fldA, v_new, v_box, v_mks, v_copy, v_isnil, v_nilck, v_pick, ev, evs_nil, evs_cons, fr_get_cons, fr_put_nil, fr_put_cons, fr_put_some, fr_put_none, fr_keep_nil, fr_keep_cons, fr_has_nil, fr_has_cons, Option.bind_some, Option.map_some, xbin, ibin, xresult_eq, xress_nil, xress_tmp, resV, ex_some, if_true, if_false, ite_true, ite_false, reduceIte, reduceCtorEq, Nat.reduceEqDiff, Nat.reduceLT, Nat.reduceLeDiff, Int.reduceLT, Int.reduceLE, Nat.zero_add, Nat.reduceAdd, Bool.false_eq_true, decide_eq_true_eq, decide_eq_false_iff_not, true_implies, false_implies, and_true, true_and, w1]
    subst hL
    refine ih (q ++ [g.testBit r]) H' _ Q w' (by simp; omega) (by omega) rfl ?_
    intro H2 w2 k2
    exact hq H2 (by simpa [gbits] using w2) (k'.trans k2)
end Go.Proofs.Ytejedmocjdcdgaa.D
