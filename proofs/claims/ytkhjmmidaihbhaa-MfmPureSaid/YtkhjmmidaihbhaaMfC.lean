/- What functions that the law reaches compute, on a heap of the run's own: the conditions stand in each theorem. -/
import Derived.Test.YtkhjmmidaihbhaaMfB
set_option linter.unusedSimpArgs false
set_option linter.unusedVariables false
namespace Go.Proofs.Ytkhjmmidaihbhaa.D
open Go Go.Det

theorem flat_neb {P : Program} {fr : Fr} {H : AH} (x y : Operand) (t t' ty : TypeId) (a b : Bool) (hu : P.underlying t = some .bool) (hx : ev fr x = some (.bool a)) (hy : ev fr y = some (.bool b)) : xop P fr H (.flat (.binOp .neq t x y ty) t') = some (.bool (!(a == b)), H) := by
  refine flat_eq ?_ ?_ rfl
  · simp [Op.operands, evFlat, hx, hy, flatD]
  · simp [execOp, flatOper, hx, hy, eqGuard, binOp, Op.equal, show Op.maxDepth = 9999 + 1 from rfl, pureRun_bind, pureRun_map, pureRun_pure, pureRun_eqb 9999 a b hu]
theorem v_neb {P : Program} {T : XTab} {fr : Fr} {H : AH} {t : TypeId} (hu : P.underlying t = some .bool) (dd : Option Nat) (x y : Operand) (t' ty : TypeId) : xval P (xc P T) ⟨dd, .flat (.binOp .neq t x y ty) t', none⟩ fr H =
    altBB (ev fr x) (ev fr y) (fun a b => some (.bool (!(a == b)), H)) (xop P fr H (.flat (.binOp .neq t x y ty) t')) := by
  rw [xval_op dd _ fr H rfl]
  unfold altBB
  split
  · rename_i a b h1 h2; exact flat_neb x y t t' ty a b hu h1 h2
  · rfl

/-! ### the bits of lengths -/
def Boos (H : AH) (v : Value) (l : List Bool) : Prop := Sl H 1 v l.length (l.map .bool)
def OwnO (n0 : Nat) (H : AH) (v : Value) (l : List Bool) : Prop := Own n0 1 H v l.length (l.map .bool)
theorem boos_idx {H : AH} {s : Value} {l : List Bool} (h : Boos H s l) (i : Int) (k : Nat) (hi : i = (k : Int)) (hk : k < l.length) : pIdx 1 s (.int .i64 i) H = some (ptrAt s k, H) := pIdx_one h .i64 i k hi hk
theorem boos_ld {H : AH} {s : Value} {l : List Bool} (h : Boos H s l) (k : Nat) (a : Bool) (ha : l[k]? = some a) : pLd none (ptrAt s k) H = some (.bool a, H) := pLd_one h k _ (by simp [ha])
theorem boos_len {H : AH} {s : Value} {l : List Bool} (hs : Boos H s l) : pLen s H = some (.int .i64 (l.length : Int), H) := pLen_ok hs
def dataL (p : Nat) (q : List Bool) (n : Nat) : List Bool := (List.range n).map fun i => decide (2 * i + 1 < p) && q.getD (2 * i + 1) false
def clockL (p : Nat) (q : List Bool) (n : Nat) : List Bool := (List.range n).map fun i => decide (2 * i < p) && q.getD (2 * i) false
theorem dataL_len (p : Nat) (q : List Bool) (n : Nat) : (dataL p q n).length = n := by simp [dataL]
theorem clockL_len (p : Nat) (q : List Bool) (n : Nat) : (clockL p q n).length = n := by simp [clockL]
theorem dataL_get (p : Nat) (q : List Bool) (n i : Nat) (hi : i < n) : (dataL p q n)[i]? = some (decide (2 * i + 1 < p) && q.getD (2 * i + 1) false) := by simp [dataL, hi]
theorem clockL_get (p : Nat) (q : List Bool) (n i : Nat) (hi : i < n) : (clockL p q n)[i]? = some (decide (2 * i < p) && q.getD (2 * i) false) := by simp [clockL, hi]
theorem dataL_none (p : Nat) (q : List Bool) (n i : Nat) (hi : n ≤ i) : (dataL p q n)[i]? = none := List.getElem?_eq_none (by rw [dataL_len]; exact hi)
theorem clockL_none (p : Nat) (q : List Bool) (n i : Nat) (hi : n ≤ i) : (clockL p q n)[i]? = none := List.getElem?_eq_none (by rw [clockL_len]; exact hi)
theorem step_even (q : List Bool) (n p g : Nat) (hg : 1 ≤ g) (h1 : ∀ j, p ≤ j → j < p + g - 1 → q.getD j false = false) (h2 : q.getD (p + g - 1) false = true) (hn : p + g ≤ 2 * n) (he : (p + g) % 2 = 0) :
    dataL (p + g) q n = (dataL p q n).set ((p + g) / 2 - 1) true ∧ clockL (p + g) q n = clockL p q n := by
  constructor
  · apply List.ext_getElem?
    intro i
    rcases Nat.lt_or_ge i n with hi | hi
    · rw [dataL_get _ _ _ _ hi]
      by_cases hk : (p + g) / 2 - 1 = i
      · subst hk
        rw [List.getElem?_set_self (by rw [dataL_len]; exact hi)]
        have e : 2 * ((p + g) / 2 - 1) + 1 = p + g - 1 := by omega
        rw [e, h2]
        have : p + g - 1 < p + g := by omega
        simp [this]
      · rw [List.getElem?_set_ne hk, dataL_get _ _ _ _ hi]
        by_cases c1 : 2 * i + 1 < p
        · have c2 : 2 * i + 1 < p + g := by omega
          simp [c1, c2]
        · by_cases c2 : 2 * i + 1 < p + g
          · rw [h1 (2 * i + 1) (by omega) (by omega)]; simp
          · simp [c1, c2]
    · rw [dataL_none _ _ _ _ hi, List.getElem?_eq_none (by simp [dataL_len]; exact hi)]
  · apply List.ext_getElem?
    intro i
    rcases Nat.lt_or_ge i n with hi | hi
    · rw [clockL_get _ _ _ _ hi, clockL_get _ _ _ _ hi]
      by_cases c1 : 2 * i < p
      · have c2 : 2 * i < p + g := by omega
        simp [c1, c2]
      · by_cases c2 : 2 * i < p + g
        · rw [h1 (2 * i) (by omega) (by omega)]; simp
        · simp [c1, c2]
    · rw [clockL_none _ _ _ _ hi, clockL_none _ _ _ _ hi]
theorem step_odd (q : List Bool) (n p g : Nat) (hg : 1 ≤ g) (h1 : ∀ j, p ≤ j → j < p + g - 1 → q.getD j false = false) (h2 : q.getD (p + g - 1) false = true) (hn : p + g ≤ 2 * n) (he : ¬ (p + g) % 2 = 0) :
    clockL (p + g) q n = (clockL p q n).set ((p + g) / 2) true ∧ dataL (p + g) q n = dataL p q n := by
  constructor
  · apply List.ext_getElem?
    intro i
    rcases Nat.lt_or_ge i n with hi | hi
    · rw [clockL_get _ _ _ _ hi]
      by_cases hk : (p + g) / 2 = i
      · subst hk
        rw [List.getElem?_set_self (by rw [clockL_len]; exact hi)]
        have e : 2 * ((p + g) / 2) = p + g - 1 := by omega
        rw [e, h2]
        have : p + g - 1 < p + g := by omega
        simp [this]
      · rw [List.getElem?_set_ne hk, clockL_get _ _ _ _ hi]
        by_cases c1 : 2 * i < p
        · have c2 : 2 * i < p + g := by omega
          simp [c1, c2]
        · by_cases c2 : 2 * i < p + g
          · rw [h1 (2 * i) (by omega) (by omega)]; simp
          · simp [c1, c2]
    · rw [clockL_none _ _ _ _ hi, List.getElem?_eq_none (by simp [clockL_len]; exact hi)]
  · apply List.ext_getElem?
    intro i
    rcases Nat.lt_or_ge i n with hi | hi
    · rw [dataL_get _ _ _ _ hi, dataL_get _ _ _ _ hi]
      by_cases c1 : 2 * i + 1 < p
      · have c2 : 2 * i + 1 < p + g := by omega
        simp [c1, c2]
      · by_cases c2 : 2 * i + 1 < p + g
        · rw [h1 (2 * i + 1) (by omega) (by omega)]; simp
        · simp [c1, c2]
    · rw [dataL_none _ _ _ _ hi, dataL_none _ _ _ _ hi]

theorem expand_len (l : List Int) (h : ∀ g ∈ l, 1 ≤ g) : ((expand l).length : Int) = l.sum := by
  induction l with
  | nil => rfl
  | cons g l ih =>
    have hg := h g (by simp)
    have := ih (fun x hx => h x (by simp [hx]))
    simp only [expand, List.length_append, List.length_replicate, List.length_cons, List.sum_cons]
    omega
theorem sum_nonneg (l : List Int) (h : ∀ g ∈ l, 1 ≤ g) : 0 ≤ l.sum := by
  induction l with
  | nil => simp
  | cons g l ih =>
    have hg := h g (by simp)
    have := ih (fun x hx => h x (by simp [hx]))
    rw [List.sum_cons]; omega

theorem bits_l0 (vl : Value) (H : AH) (rest : List Int) : ∀ (pre : List Int) (x i N : Int) (Q : XExit → Fr → AH → Prop), Ints H vl (pre ++ rest) → (∀ g ∈ rest, 1 ≤ g) → 0 ≤ x → x + rest.sum ≤ 1000000 → pre.length + rest.length ≤ 40000 → i = (pre.length : Int) → N = ((pre ++ rest).length : Int) →
    Q (.exit 0) [(0, vl), (5, .int .i64 (x + rest.sum)), (13, vl), (14, .int .i64 N), (15, .int .i64 N), (16, .bool false)] H → Run Try.prog tab (.loop xmfm_bits_l0) [(0, vl), (5, .int .i64 x), (13, vl), (14, .int .i64 N), (15, .int .i64 i)] H Q := by
  induction rest with
  | nil =>
    intro pre x i N Q hs hp hx hx2 hl hi hN hq
    rw [run_loop]
    generalize hL : XCode.loop xmfm_bits_l0 = LL
    have hiN : i = N := by simp at hN; omega
    subst hiN
    have hf : ¬ i < i := by omega
    simp only [xmfm_bits_l0, ofArgs, run_seq, run_block, run_ops, run_skip, run_exit, run_ret, thenQ_normal, thenQ_exit, thenQ_ret, blockQ_normal, blockQ_exit, blockQ_ret, retQ_ret, retQ_normal, ops_nil, ops_none, got_some, ops_wT, ops_wTn, ops_wF, ops_wFn, ops_wU, dops_wT, dops_wTn, dops_wF, dops_wFn, dops_wU, run_condT, run_condF, alt2_int, altB_bool, altI_int, altBB_bool, v_min, v_max, v_not, v_neg, optEv_none, optEv_some, isSome'_none, isSome'_some, pExt0, pExt1, pExt2, Bool.false_and, Bool.true_and, Bool.not_true, Bool.not_false, cond_true, cond_false, dops_nil, dops_none, xval_call, v_mov, v_bin, v_len, v_ext, v_idxA, v_ld, v_st, v_app, v_appN, v_cvs, v_bs1, pBs1, v_slc, v_conv, v_fld, v_fldA, v_new, v_box, v_mks, v_copy, v_isnil, v_nilck, v_pick, ev, evs_nil, evs_cons, fr_get_cons, fr_put_nil, fr_put_cons, fr_put_some, fr_put_none, fr_keep_nil, fr_keep_cons, fr_has_nil, fr_has_cons, Option.bind_some, Option.map_some, xbin, ibin, xresult_eq, xress_nil, xress_tmp, resV, ex_some, if_true, if_false, ite_true, ite_false, reduceIte, reduceCtorEq, Nat.reduceEqDiff, Nat.reduceLT, Nat.reduceLeDiff, Int.reduceLT, Int.reduceLE, Nat.zero_add, Nat.reduceAdd, Bool.false_eq_true, decide_eq_true_eq, decide_eq_false_iff_not, true_implies, false_implies, and_true, true_and, hf, decide_false]
    simpa using hq
  | cons a rest ih =>
    intro pre x i N Q hs hp hx hx2 hl hi hN hq
    simp only [List.length_cons] at hl
    rw [run_loop]
    generalize hL : XCode.loop xmfm_bits_l0 = LL
    have hlt : i < N := by simp at hN; omega
    have ha := hp a (by simp)
    have hsn := sum_nonneg rest (fun g hg => hp g (by simp [hg]))
    rw [List.sum_cons] at hx2 hq
    have e1 := ints_idx hs i pre.length hi (by simp)
    have e2 := ints_ld hs pre.length a (by simp)
    have e4 := wrI (i + 1) (by omega) (by omega)
    have e3 := wrI (x + a) (by omega) (by omega)
    simp only [xmfm_bits_l0, ofArgs, run_seq, run_block, run_ops, run_skip, run_exit, run_ret, thenQ_normal, thenQ_exit, thenQ_ret, blockQ_normal, blockQ_exit, blockQ_ret, retQ_ret, retQ_normal, ops_nil, ops_none, got_some, ops_wT, ops_wTn, ops_wF, ops_wFn, ops_wU, dops_wT, dops_wTn, dops_wF, dops_wFn, dops_wU, run_condT, run_condF, alt2_int, altB_bool, altI_int, altBB_bool, v_min, v_max, v_not, v_neg, optEv_none, optEv_some, isSome'_none, isSome'_some, pExt0, pExt1, pExt2, Bool.false_and, Bool.true_and, Bool.not_true, Bool.not_false, cond_true, cond_false, dops_nil, dops_none, xval_call, v_mov, v_bin, v_len, v_ext, v_idxA, v_ld, v_st, v_app, v_appN, v_cvs, v_bs1, pBs1, v_slc, v_conv, v_fld, v_fldA, v_new, v_box, v_mks, v_copy, v_isnil, v_nilck, v_pick, ev, evs_nil, evs_cons, fr_get_cons, fr_put_nil, fr_put_cons, fr_put_some, fr_put_none, fr_keep_nil, fr_keep_cons, fr_has_nil, fr_has_cons, Option.bind_some, Option.map_some, xbin, ibin, xresult_eq, xress_nil, xress_tmp, resV, ex_some, if_true, if_false, ite_true, ite_false, reduceIte, reduceCtorEq, Nat.reduceEqDiff, Nat.reduceLT, Nat.reduceLeDiff, Int.reduceLT, Int.reduceLE, Nat.zero_add, Nat.reduceAdd, Bool.false_eq_true, decide_eq_true_eq, decide_eq_false_iff_not, true_implies, false_implies, and_true, true_and, hlt, decide_true, e1, e2, e3, e4]
    subst hL
    refine ih (pre ++ [a]) (x + a) (i + 1) N Q (Ints.app1 hs) (fun g hg => hp g (by simp [hg])) (by omega) (by omega) (by simp; omega) (by simp; omega) (by simpa using hN) ?_
    rw [Int.add_assoc]; exact hq

theorem OwnO.set' {n0 : Nat} {H : AH} {v : Value} {l : List Bool} {k : Nat} {Q : Value → AH → Prop} (ho : OwnO n0 H v l) (hk : k < l.length) (hq : ∀ H', OwnO n0 H' v (l.set k true) → Stp v H v H' → Q undef H') : Got (pSt 1 (ptrAt v k) (.bool true) H) Q := by
  refine pSt_own ho (by simpa using hk) rfl rfl ?_
  intro H' o s
  refine hq H' ?_ s
  unfold OwnO
  rw [List.length_set, List.map_set]
  exact o

theorem bits_l1 (n0 : Nat) (vl vd vc : Value) (tot : Int) (q : List Bool) (n : Nat) (hn : n ≤ 100000) (hq2 : q.length = 2 * n) (hvl : ∀ b, inB vl b → b < n0) (hdis : ∀ b, inB vc b → ¬ inB vd b) (rest : List Int) : ∀ (pre : List Int) (H : AH) (p : Nat) (i N : Int) (Q : XExit → Fr → AH → Prop), Ints H vl (pre ++ rest) → (∀ g ∈ pre ++ rest, 1 ≤ g) → q = expand (pre ++ rest) → p = (expand pre).length → OwnO n0 H vd (dataL p q n) → OwnO n0 H vc (clockL p q n) → n0 ≤ H.n → pre.length + rest.length ≤ 40000 → i = (pre.length : Int) → N = ((pre ++ rest).length : Int) →
    (∀ H', OwnO n0 H' vd (dataL (2 * n) q n) → OwnO n0 H' vc (clockL (2 * n) q n) → Keep n0 H H' → Q (.exit 2) [(5, .int .i64 tot), (8, vd), (9, vc), (10, .int .i64 (2 * n : Nat)), (36, vl), (37, .int .i64 N), (38, .int .i64 N), (39, .bool false)] H') →
    Run Try.prog tab (.loop xmfm_bits_l1) [(5, .int .i64 tot), (8, vd), (9, vc), (10, .int .i64 p), (36, vl), (37, .int .i64 N), (38, .int .i64 i)] H Q := by
  have hdis2 : ∀ b, inB vd b → ¬ inB vc b := fun b h1 h2 => hdis b h2 h1
  induction rest with
  | nil =>
    intro pre H p i N Q hs hp hqe hpe hd hc hnn hl hi hN hq
    rw [run_loop]
    generalize hL : XCode.loop xmfm_bits_l1 = LL
    have hiN : i = N := by simp at hN; omega
    subst hiN
    have hf : ¬ i < i := by omega
    have hp2 : p = 2 * n := by rw [hpe, ← hq2, hqe, List.append_nil]
    subst hp2
    simp only [xmfm_bits_l1, ofArgs, run_seq, run_block, run_ops, run_skip, run_exit, run_ret, thenQ_normal, thenQ_exit, thenQ_ret, blockQ_normal, blockQ_exit, blockQ_ret, retQ_ret, retQ_normal, ops_nil, ops_none, got_some, ops_wT, ops_wTn, ops_wF, ops_wFn, ops_wU, dops_wT, dops_wTn, dops_wF, dops_wFn, dops_wU, run_condT, run_condF, alt2_int, altB_bool, altI_int, altBB_bool, v_min, v_max, v_not, v_neg, optEv_none, optEv_some, isSome'_none, isSome'_some, pExt0, pExt1, pExt2, Bool.false_and, Bool.true_and, Bool.not_true, Bool.not_false, cond_true, cond_false, dops_nil, dops_none, xval_call, v_mov, v_bin, v_len, v_ext, v_idxA, v_ld, v_st, v_app, v_appN, v_cvs, v_bs1, pBs1, v_slc, v_conv, v_fld, v_fldA, v_new, v_box, v_mks, v_copy, v_isnil, v_nilck, v_pick, ev, evs_nil, evs_cons, fr_get_cons, fr_put_nil, fr_put_cons, fr_put_some, fr_put_none, fr_keep_nil, fr_keep_cons, fr_has_nil, fr_has_cons, Option.bind_some, Option.map_some, xbin, ibin, xresult_eq, xress_nil, xress_tmp, resV, ex_some, if_true, if_false, ite_true, ite_false, reduceIte, reduceCtorEq, Nat.reduceEqDiff, Nat.reduceLT, Nat.reduceLeDiff, Int.reduceLT, Int.reduceLE, Nat.zero_add, Nat.reduceAdd, Bool.false_eq_true, decide_eq_true_eq, decide_eq_false_iff_not, true_implies, false_implies, and_true, true_and, hf, decide_false]
    exact hq H hd hc (.refl _ _)
  | cons a rest ih =>
    intro pre H p i N Q hs hp hqe hpe hd hc hnn hl hi hN hq
    have ih' := ih (pre ++ [a])
    simp only [List.length_cons] at hl
    rw [run_loop]
    generalize hL : XCode.loop xmfm_bits_l1 = LL
    rw [hL] at ih'
    have hlt : i < N := by simp at hN; omega
    have ha := hp a (by simp)
    obtain ⟨g, rfl⟩ : ∃ g : Nat, a = (g : Int) := ⟨a.toNat, by omega⟩
    have hg1 : 1 ≤ g := by omega
    have hpre : expand (pre ++ [(g : Int)]) = expand pre ++ (List.replicate (g - 1) false ++ [true]) := by rw [expand_app]; simp [expand]
    have hplen : p + g = (expand (pre ++ [(g : Int)])).length := by rw [hpre]; simp; omega
    have hqs : q = expand pre ++ ((List.replicate (g - 1) false ++ [true]) ++ expand rest) := by rw [hqe, expand_app]; simp [expand]
    have hpn : p + g ≤ 2 * n := by rw [← hq2, hqs]; simp; omega
    have h1 : ∀ j, p ≤ j → j < p + g - 1 → q.getD j false = false := by
      intro j hj1 hj2
      rw [hqs, List.getD_eq_getElem?_getD, List.getElem?_append_right (by omega), List.append_assoc, List.getElem?_append_left (by simp; omega), List.getElem?_replicate]
      split <;> rfl
    have h2 : q.getD (p + g - 1) false = true := by
      rw [hqs, List.getD_eq_getElem?_getD, List.getElem?_append_right (by omega), List.append_assoc, List.getElem?_append_right (by simp; omega), List.length_replicate, ← hpe, show p + g - 1 - p - (g - 1) = 0 by omega]
      rfl
    have e1 := ints_idx hs i pre.length hi (by simp)
    have e2 := ints_ld hs pre.length (g : Int) (by simp)
    have e4 := wrI (i + 1) (by omega) (by omega)
    have w1 : IntKind.i64.wrap ((p : Int) + (g : Int)) = ((p + g : Nat) : Int) := by rw [wrI _ (by omega) (by omega)]; omega
    have q2 : ¬ ((2 : Int) = 0) := by omega
    have u1 : Int.tdiv ((p + g : Nat) : Int) 2 = (((p + g) / 2 : Nat) : Int) := by rw [Int.tdiv_eq_ediv_of_nonneg (by omega)]; omega
    have u2 : Int.tmod ((p + g : Nat) : Int) 2 = (((p + g) % 2 : Nat) : Int) := by rw [Int.tmod_eq_emod_of_nonneg (by omega)]; omega
    have u3 := wrI (((p + g) / 2 : Nat) : Int) (by omega) (by omega)
    have hv2 : ∀ b, inB vl b → ¬ inB vd b ∧ ¬ inB vc b := fun b hb => ⟨fun ⟨o, l, c, e⟩ => by have := (hd.2 b o l c e).1; have := hvl b hb; omega, fun ⟨o, l, c, e⟩ => by have := (hc.2 b o l c e).1; have := hvl b hb; omega⟩
    by_cases he : (p + g) % 2 = 0
    · obtain ⟨s1, s2⟩ := step_even q n p g hg1 h1 h2 hpn he
      have c1 : ((((p + g) % 2 : Nat) : Int) == 0) = true := by rw [he]; rfl
      have u4 : IntKind.i64.wrap ((((p + g) / 2 : Nat) : Int) - 1) = (((p + g) / 2 - 1 : Nat) : Int) := by rw [wrI _ (by omega) (by omega)]; omega
      have e5 := boos_idx (l := dataL p q n) hd.1 (((p + g) / 2 - 1 : Nat) : Int) ((p + g) / 2 - 1) rfl (by rw [dataL_len]; omega)
      simp only [xmfm_bits_l1, ofArgs, run_seq, run_block, run_ops, run_skip, run_exit, run_ret, thenQ_normal, thenQ_exit, thenQ_ret, blockQ_normal, blockQ_exit, blockQ_ret, retQ_ret, retQ_normal, ops_nil, ops_none, got_some, ops_wT, ops_wTn, ops_wF, ops_wFn, ops_wU, dops_wT, dops_wTn, dops_wF, dops_wFn, dops_wU, run_condT, run_condF, alt2_int, altB_bool, altI_int, altBB_bool, v_min, v_max, v_not, v_neg, optEv_none, optEv_some, isSome'_none, isSome'_some, pExt0, pExt1, pExt2, Bool.false_and, Bool.true_and, Bool.not_true, Bool.not_false, cond_true, cond_false, dops_nil, dops_none, xval_call, v_mov, v_bin, v_len, v_ext, v_idxA, v_ld, v_st, v_app, v_appN, v_cvs, v_bs1, pBs1, v_slc, v_conv, v_fld, v_fldA, v_new, v_box, v_mks, v_copy, v_isnil, v_nilck, v_pick, ev, evs_nil, evs_cons, fr_get_cons, fr_put_nil, fr_put_cons, fr_put_some, fr_put_none, fr_keep_nil, fr_keep_cons, fr_has_nil, fr_has_cons, Option.bind_some, Option.map_some, xbin, ibin, xresult_eq, xress_nil, xress_tmp, resV, ex_some, if_true, if_false, ite_true, ite_false, reduceIte, reduceCtorEq, Nat.reduceEqDiff, Nat.reduceLT, Nat.reduceLeDiff, Int.reduceLT, Int.reduceLE, Nat.zero_add, Nat.reduceAdd, Bool.false_eq_true, decide_eq_true_eq, decide_eq_false_iff_not, true_implies, false_implies, and_true, true_and, hlt, decide_true, e1, e2, w1, q2, u1, u2, u3, c1, u4, e5]
      refine OwnO.set' hd (by rw [dataL_len]; omega) ?_
      intro H' o' st
      rw [← s1] at o'
      have hc' := Own.stp st hc hdis
      have hc'' : OwnO n0 H' vc (clockL (p + g) q n) := by rw [s2]; exact hc'
      have kk := st.keep hd hnn
      simp only [ofArgs, run_seq, run_block, run_ops, run_skip, run_exit, run_ret, thenQ_normal, thenQ_exit, thenQ_ret, blockQ_normal, blockQ_exit, blockQ_ret, retQ_ret, retQ_normal, ops_nil, ops_none, got_some, ops_wT, ops_wTn, ops_wF, ops_wFn, ops_wU, dops_wT, dops_wTn, dops_wF, dops_wFn, dops_wU, run_condT, run_condF, alt2_int, altB_bool, altI_int, altBB_bool, v_min, v_max, v_not, v_neg, optEv_none, optEv_some, isSome'_none, isSome'_some, pExt0, pExt1, pExt2, Bool.false_and, Bool.true_and, Bool.not_true, Bool.not_false, cond_true, cond_false, dops_nil, dops_none, xval_call, v_mov, v_bin, v_len, v_ext, v_idxA, v_ld, v_st, v_app, v_appN, v_cvs, v_bs1, pBs1, v_slc, v_conv, v_fld, v_fldA, v_new, v_box, v_mks, v_copy, v_isnil, v_nilck, v_pick, ev, evs_nil, evs_cons, fr_get_cons, fr_put_nil, fr_put_cons, fr_put_some, fr_put_none, fr_keep_nil, fr_keep_cons, fr_has_nil, fr_has_cons, Option.bind_some, Option.map_some, xbin, ibin, xresult_eq, xress_nil, xress_tmp, resV, ex_some, if_true, if_false, ite_true, ite_false, reduceIte, reduceCtorEq, Nat.reduceEqDiff, Nat.reduceLT, Nat.reduceLeDiff, Int.reduceLT, Int.reduceLE, Nat.zero_add, Nat.reduceAdd, Bool.false_eq_true, decide_eq_true_eq, decide_eq_false_iff_not, true_implies, false_implies, and_true, true_and, e4]
      refine ih' H' (p + g) (i + 1) N Q (Ints.app1 (Sl.same hs st.n fun b hb => st.get b (Sl.lt hs hb) (hv2 b hb).1)) (by simpa using hp) (by simpa using hqe) hplen o' hc'' (by have := kk.1; omega) (by simp; omega) (by simp; omega) (by simpa using hN) ?_
      intro H2 a1 a2 k2
      exact hq H2 a1 a2 (kk.trans k2)
    · obtain ⟨s1, s2⟩ := step_odd q n p g hg1 h1 h2 hpn he
      have c1 : ((((p + g) % 2 : Nat) : Int) == 0) = false := by simp; omega
      have e5 := boos_idx (l := clockL p q n) hc.1 (((p + g) / 2 : Nat) : Int) ((p + g) / 2) rfl (by rw [clockL_len]; omega)
      simp only [xmfm_bits_l1, ofArgs, run_seq, run_block, run_ops, run_skip, run_exit, run_ret, thenQ_normal, thenQ_exit, thenQ_ret, blockQ_normal, blockQ_exit, blockQ_ret, retQ_ret, retQ_normal, ops_nil, ops_none, got_some, ops_wT, ops_wTn, ops_wF, ops_wFn, ops_wU, dops_wT, dops_wTn, dops_wF, dops_wFn, dops_wU, run_condT, run_condF, alt2_int, altB_bool, altI_int, altBB_bool, v_min, v_max, v_not, v_neg, optEv_none, optEv_some, isSome'_none, isSome'_some, pExt0, pExt1, pExt2, Bool.false_and, Bool.true_and, Bool.not_true, Bool.not_false, cond_true, cond_false, dops_nil, dops_none, xval_call, v_mov, v_bin, v_len, v_ext, v_idxA, v_ld, v_st, v_app, v_appN, v_cvs, v_bs1, pBs1, v_slc, v_conv, v_fld, v_fldA, v_new, v_box, v_mks, v_copy, v_isnil, v_nilck, v_pick, ev, evs_nil, evs_cons, fr_get_cons, fr_put_nil, fr_put_cons, fr_put_some, fr_put_none, fr_keep_nil, fr_keep_cons, fr_has_nil, fr_has_cons, Option.bind_some, Option.map_some, xbin, ibin, xresult_eq, xress_nil, xress_tmp, resV, ex_some, if_true, if_false, ite_true, ite_false, reduceIte, reduceCtorEq, Nat.reduceEqDiff, Nat.reduceLT, Nat.reduceLeDiff, Int.reduceLT, Int.reduceLE, Nat.zero_add, Nat.reduceAdd, Bool.false_eq_true, decide_eq_true_eq, decide_eq_false_iff_not, true_implies, false_implies, and_true, true_and, hlt, decide_true, e1, e2, w1, q2, u1, u2, u3, c1, e5]
      refine OwnO.set' hc (by rw [clockL_len]; omega) ?_
      intro H' o' st
      rw [← s1] at o'
      have hd' := Own.stp st hd hdis2
      have hd'' : OwnO n0 H' vd (dataL (p + g) q n) := by rw [s2]; exact hd'
      have kk := st.keep hc hnn
      simp only [ofArgs, run_seq, run_block, run_ops, run_skip, run_exit, run_ret, thenQ_normal, thenQ_exit, thenQ_ret, blockQ_normal, blockQ_exit, blockQ_ret, retQ_ret, retQ_normal, ops_nil, ops_none, got_some, ops_wT, ops_wTn, ops_wF, ops_wFn, ops_wU, dops_wT, dops_wTn, dops_wF, dops_wFn, dops_wU, run_condT, run_condF, alt2_int, altB_bool, altI_int, altBB_bool, v_min, v_max, v_not, v_neg, optEv_none, optEv_some, isSome'_none, isSome'_some, pExt0, pExt1, pExt2, Bool.false_and, Bool.true_and, Bool.not_true, Bool.not_false, cond_true, cond_false, dops_nil, dops_none, xval_call, v_mov, v_bin, v_len, v_ext, v_idxA, v_ld, v_st, v_app, v_appN, v_cvs, v_bs1, pBs1, v_slc, v_conv, v_fld, v_fldA, v_new, v_box, v_mks, v_copy, v_isnil, v_nilck, v_pick, ev, evs_nil, evs_cons, fr_get_cons, fr_put_nil, fr_put_cons, fr_put_some, fr_put_none, fr_keep_nil, fr_keep_cons, fr_has_nil, fr_has_cons, Option.bind_some, Option.map_some, xbin, ibin, xresult_eq, xress_nil, xress_tmp, resV, ex_some, if_true, if_false, ite_true, ite_false, reduceIte, reduceCtorEq, Nat.reduceEqDiff, Nat.reduceLT, Nat.reduceLeDiff, Int.reduceLT, Int.reduceLE, Nat.zero_add, Nat.reduceAdd, Bool.false_eq_true, decide_eq_true_eq, decide_eq_false_iff_not, true_implies, false_implies, and_true, true_and, e4]
      refine ih' H' (p + g) (i + 1) N Q (Ints.app1 (Sl.same hs st.n fun b hb => st.get b (Sl.lt hs hb) (hv2 b hb).2)) (by simpa using hp) (by simpa using hqe) hplen hd'' o' (by have := kk.1; omega) (by simp; omega) (by simp; omega) (by simpa using hN) ?_
      intro H2 a1 a2 k2
      exact hq H2 a1 a2 (kk.trans k2)

theorem bits_ok (L : List Int) (n : Nat) (vl : Value) (H : AH) (Q : Value → AH → Prop) (hs : Ints H vl L) (hp : ∀ g ∈ L, 1 ≤ g) (hl : L.length ≤ 40000) (hlen : (expand L).length = 2 * n) (hn1 : 1 ≤ n) (hn : n ≤ 100000) (hn8 : (n - 1) % 8 = 0)
    (hq : ∀ vd vc H', OwnO H.n H' vd (dataL (2 * n) (expand L) n) → OwnO H.n H' vc (clockL (2 * n) (expand L) n) → HExt H H' → Q (.tuple [vd, vc, .int .i64 0].toArray) H') : Got (xc Try.prog tab 86 [vl] H) Q := by
  refine got_call (res := [.tmp 2, .tmp 3, .tmp 4]) rfl ?_
  have e0 := ints_len hs
  have hsum : L.sum = ((2 * n : Nat) : Int) := by rw [← expand_len L hp, hlen]
  simp only [ofArgs, run_seq, run_block, run_ops, run_skip, run_exit, run_ret, thenQ_normal, thenQ_exit, thenQ_ret, blockQ_normal, blockQ_exit, blockQ_ret, retQ_ret, retQ_normal, ops_nil, ops_none, got_some, ops_wT, ops_wTn, ops_wF, ops_wFn, ops_wU, dops_wT, dops_wTn, dops_wF, dops_wFn, dops_wU, run_condT, run_condF, alt2_int, altB_bool, altI_int, altBB_bool, v_min, v_max, v_not, v_neg, optEv_none, optEv_some, isSome'_none, isSome'_some, pExt0, pExt1, pExt2, Bool.false_and, Bool.true_and, Bool.not_true, Bool.not_false, cond_true, cond_false, dops_nil, dops_none, xval_call, v_mov, v_bin, v_len, v_ext, v_idxA, v_ld, v_st, v_app, v_appN, v_cvs, v_bs1, pBs1, v_slc, v_conv, v_fld, v_fldA, v_new, v_box, v_mks, v_copy, v_isnil, v_nilck, v_pick, ev, evs_nil, evs_cons, fr_get_cons, fr_put_nil, fr_put_cons, fr_put_some, fr_put_none, fr_keep_nil, fr_keep_cons, fr_has_nil, fr_has_cons, Option.bind_some, Option.map_some, xbin, ibin, xresult_eq, xress_nil, xress_tmp, resV, ex_some, if_true, if_false, ite_true, ite_false, reduceIte, reduceCtorEq, Nat.reduceEqDiff, Nat.reduceLT, Nat.reduceLeDiff, Int.reduceLT, Int.reduceLE, Nat.zero_add, Nat.reduceAdd, Bool.false_eq_true, decide_eq_true_eq, decide_eq_false_iff_not, true_implies, false_implies, and_true, true_and, e0]
  refine bits_l0 vl H L [] 0 0 _ _ hs hp (by omega) (by omega) (by simpa using hl) (by simp) (by simp) ?_
  rw [Int.zero_add, hsum]
  have q2 : ¬ ((2 : Int) = 0) := by omega
  have u2 : Int.tmod ((2 * n : Nat) : Int) 2 = 0 := by rw [Int.tmod_eq_emod_of_nonneg (by omega)]; omega
  have u1 : Int.tdiv ((2 * n : Nat) : Int) 2 = ((n : Nat) : Int) := by rw [Int.tdiv_eq_ediv_of_nonneg (by omega)]; omega
  have u3 := wrI ((n : Nat) : Int) (by omega) (by omega)
  have c1 : ((0 : Int) == 1) = false := rfl
  have c2 : ¬ ((2 * n : Nat) : Int) < 2 := by omega
  have m1 := fun H => pMks_ok (.bool false) n (by omega) .i64 H (n : Int) rfl
  simp only [ofArgs, run_seq, run_block, run_ops, run_skip, run_exit, run_ret, thenQ_normal, thenQ_exit, thenQ_ret, blockQ_normal, blockQ_exit, blockQ_ret, retQ_ret, retQ_normal, ops_nil, ops_none, got_some, ops_wT, ops_wTn, ops_wF, ops_wFn, ops_wU, dops_wT, dops_wTn, dops_wF, dops_wFn, dops_wU, run_condT, run_condF, alt2_int, altB_bool, altI_int, altBB_bool, v_min, v_max, v_not, v_neg, optEv_none, optEv_some, isSome'_none, isSome'_some, pExt0, pExt1, pExt2, Bool.false_and, Bool.true_and, Bool.not_true, Bool.not_false, cond_true, cond_false, dops_nil, dops_none, xval_call, v_mov, v_bin, v_len, v_ext, v_idxA, v_ld, v_st, v_app, v_appN, v_cvs, v_bs1, pBs1, v_slc, v_conv, v_fld, v_fldA, v_new, v_box, v_mks, v_copy, v_isnil, v_nilck, v_pick, ev, evs_nil, evs_cons, fr_get_cons, fr_put_nil, fr_put_cons, fr_put_some, fr_put_none, fr_keep_nil, fr_keep_cons, fr_has_nil, fr_has_cons, Option.bind_some, Option.map_some, xbin, ibin, xresult_eq, xress_nil, xress_tmp, resV, ex_some, if_true, if_false, ite_true, ite_false, reduceIte, reduceCtorEq, Nat.reduceEqDiff, Nat.reduceLT, Nat.reduceLeDiff, Int.reduceLT, Int.reduceLE, Nat.zero_add, Nat.reduceAdd, Bool.false_eq_true, decide_eq_true_eq, decide_eq_false_iff_not, true_implies, false_implies, and_true, true_and, q2, u1, u2, u3, c1, c2, decide_false]
  refine run_dopsS _ _ _ _ _ ?_
  simp only [ofArgs, run_seq, run_block, run_ops, run_skip, run_exit, run_ret, thenQ_normal, thenQ_exit, thenQ_ret, blockQ_normal, blockQ_exit, blockQ_ret, retQ_ret, retQ_normal, ops_nil, ops_none, got_some, ops_wT, ops_wTn, ops_wF, ops_wFn, ops_wU, dops_wT, dops_wTn, dops_wF, dops_wFn, dops_wU, run_condT, run_condF, alt2_int, altB_bool, altI_int, altBB_bool, v_min, v_max, v_not, v_neg, optEv_none, optEv_some, isSome'_none, isSome'_some, pExt0, pExt1, pExt2, Bool.false_and, Bool.true_and, Bool.not_true, Bool.not_false, cond_true, cond_false, dops_nil, dops_none, xval_call, v_mov, v_bin, v_len, v_ext, v_idxA, v_ld, v_st, v_app, v_appN, v_cvs, v_bs1, pBs1, v_slc, v_conv, v_fld, v_fldA, v_new, v_box, v_mks, v_copy, v_isnil, v_nilck, v_pick, ev, evs_nil, evs_cons, fr_get_cons, fr_put_nil, fr_put_cons, fr_put_some, fr_put_none, fr_keep_nil, fr_keep_cons, fr_has_nil, fr_has_cons, Option.bind_some, Option.map_some, xbin, ibin, xresult_eq, xress_nil, xress_tmp, resV, ex_some, if_true, if_false, ite_true, ite_false, reduceIte, reduceCtorEq, Nat.reduceEqDiff, Nat.reduceLT, Nat.reduceLeDiff, Int.reduceLT, Int.reduceLE, Nat.zero_add, Nat.reduceAdd, Bool.false_eq_true, decide_eq_true_eq, decide_eq_false_iff_not, true_implies, false_implies, and_true, true_and, dr_nil, dr_cons, hs0, hs1, hs2, hs3, addC_nil, addC_cons, stabAll_nil, stabAll_cons, stab1_nil, stab1_cons, hat_cons, xval_wT, xval_wTn, xval_wF, xval_wFn, veq_int, veq_bool, veq_ptr, veq_sl, q2, u1, u3, m1, AH.push_n]
  have x1 : HExt H ((H.push ⟨rep n [.bool false], 1, false, false⟩).push ⟨rep n [.bool false], 1, false, false⟩) := (hext_push H _).trans (hext_push _ _)
  have e1 := ints_len (Sl.ext x1 hs : Ints _ vl L)
  have z1 : dataL 0 (expand L) n = List.replicate n false := by
    apply List.ext_getElem?
    intro i
    rcases Nat.lt_or_ge i n with hi | hi
    · rw [dataL_get _ _ _ _ hi]; simp [hi]
    · rw [dataL_none _ _ _ _ hi]; simp [hi]
  have z2 : clockL 0 (expand L) n = List.replicate n false := by
    apply List.ext_getElem?
    intro i
    rcases Nat.lt_or_ge i n with hi | hi
    · rw [clockL_get _ _ _ _ hi]; simp [hi]
    · rw [clockL_none _ _ _ _ hi]; simp [hi]
  have od : OwnO H.n ((H.push ⟨rep n [.bool false], 1, false, false⟩).push ⟨rep n [.bool false], 1, false, false⟩) (.slice (some ⟨H.n, 0, none⟩) n n) (dataL 0 (expand L) n) := by
    rw [z1]
    have hp := Own.pushed H (rep n [.bool false]) 1 n false (by rw [rep_length]; simp)
    have := Own.ext (hext_push (H.push ⟨rep n [.bool false], 1, false, false⟩) ⟨rep n [.bool false], 1, false, false⟩) hp
    unfold OwnO
    rw [rep_one] at this
    simpa [rep_one] using this
  have oc : OwnO H.n ((H.push ⟨rep n [.bool false], 1, false, false⟩).push ⟨rep n [.bool false], 1, false, false⟩) (.slice (some ⟨H.n + 1, 0, none⟩) n n) (clockL 0 (expand L) n) := by
    rw [z2]
    have hp := (Own.pushed (H.push ⟨rep n [.bool false], 1, false, false⟩) (rep n [.bool false]) 1 n false (by rw [rep_length]; simp)).le (n0 := H.n) (by simp)
    unfold OwnO
    rw [rep_one] at hp
    simpa [rep_one] using hp
  have hn2 : ((H.push ⟨rep n [.bool false], 1, false, false⟩).push ⟨rep n [.bool false], 1, false, false⟩).n = H.n + 2 := by simp
  simp only [ofArgs, run_seq, run_block, run_ops, run_skip, run_exit, run_ret, thenQ_normal, thenQ_exit, thenQ_ret, blockQ_normal, blockQ_exit, blockQ_ret, retQ_ret, retQ_normal, ops_nil, ops_none, got_some, ops_wT, ops_wTn, ops_wF, ops_wFn, ops_wU, dops_wT, dops_wTn, dops_wF, dops_wFn, dops_wU, run_condT, run_condF, alt2_int, altB_bool, altI_int, altBB_bool, v_min, v_max, v_not, v_neg, optEv_none, optEv_some, isSome'_none, isSome'_some, pExt0, pExt1, pExt2, Bool.false_and, Bool.true_and, Bool.not_true, Bool.not_false, cond_true, cond_false, dops_nil, dops_none, xval_call, v_mov, v_bin, v_len, v_ext, v_idxA, v_ld, v_st, v_app, v_appN, v_cvs, v_bs1, pBs1, v_slc, v_conv, v_fld, v_fldA, v_new, v_box, v_mks, v_copy, v_isnil, v_nilck, v_pick, ev, evs_nil, evs_cons, fr_get_cons, fr_put_nil, fr_put_cons, fr_put_some, fr_put_none, fr_keep_nil, fr_keep_cons, fr_has_nil, fr_has_cons, Option.bind_some, Option.map_some, xbin, ibin, xresult_eq, xress_nil, xress_tmp, resV, ex_some, if_true, if_false, ite_true, ite_false, reduceIte, reduceCtorEq, Nat.reduceEqDiff, Nat.reduceLT, Nat.reduceLeDiff, Int.reduceLT, Int.reduceLE, Nat.zero_add, Nat.reduceAdd, Bool.false_eq_true, decide_eq_true_eq, decide_eq_false_iff_not, true_implies, false_implies, and_true, true_and, e1]
  generalize ((H.push ⟨rep n [.bool false], 1, false, false⟩).push ⟨rep n [.bool false], 1, false, false⟩) = H2 at x1 od oc hn2
  refine bits_l1 H.n vl _ _ ((2 * n : Nat) : Int) (expand L) n hn hlen (fun b hb => Sl.lt hs hb) (fun b ⟨o, l, c, e⟩ ⟨o2, l2, c2, e2⟩ => by simp at e e2; omega) L [] H2 0 0 _ _ (Sl.ext x1 hs) hp rfl rfl od oc (by omega) (by simpa using hl) (by simp) (by simp) ?_
  intro H3 d3 c3 k3
  have w1 : IntKind.i64.wrap (((n : Nat) : Int) - 1) = ((n - 1 : Nat) : Int) := by rw [wrI _ (by omega) (by omega)]; omega
  have q8 : ¬ ((8 : Int) = 0) := by omega
  have u8 : Int.tmod ((n - 1 : Nat) : Int) 8 = 0 := by rw [Int.tmod_eq_emod_of_nonneg (by omega)]; omega
  simp only [ofArgs, run_seq, run_block, run_ops, run_skip, run_exit, run_ret, thenQ_normal, thenQ_exit, thenQ_ret, blockQ_normal, blockQ_exit, blockQ_ret, retQ_ret, retQ_normal, ops_nil, ops_none, got_some, ops_wT, ops_wTn, ops_wF, ops_wFn, ops_wU, dops_wT, dops_wTn, dops_wF, dops_wFn, dops_wU, run_condT, run_condF, alt2_int, altB_bool, altI_int, altBB_bool, v_min, v_max, v_not, v_neg, optEv_none, optEv_some, isSome'_none, isSome'_some, pExt0, pExt1, pExt2, Bool.false_and, Bool.true_and, Bool.not_true, Bool.not_false, cond_true, cond_false, dops_nil, dops_none, xval_call, v_mov, v_bin, v_len, v_ext, v_idxA, v_ld, v_st, v_app, v_appN, v_cvs, v_bs1, pBs1, v_slc, v_conv, v_fld, v_fldA, v_new, v_box, v_mks, v_copy, v_isnil, v_nilck, v_pick, ev, evs_nil, evs_cons, fr_get_cons, fr_put_nil, fr_put_cons, fr_put_some, fr_put_none, fr_keep_nil, fr_keep_cons, fr_has_nil, fr_has_cons, Option.bind_some, Option.map_some, xbin, ibin, xresult_eq, xress_nil, xress_tmp, resV, ex_some, if_true, if_false, ite_true, ite_false, reduceIte, reduceCtorEq, Nat.reduceEqDiff, Nat.reduceLT, Nat.reduceLeDiff, Int.reduceLT, Int.reduceLE, Nat.zero_add, Nat.reduceAdd, Bool.false_eq_true, decide_eq_true_eq, decide_eq_false_iff_not, true_implies, false_implies, and_true, true_and, q2, u1, u3, w1, q8, u8, bne_self_eq_false]
  exact hq _ _ H3 d3 c3 (Keep.trans (n0 := H.n) x1 k3)
end Go.Proofs.Ytkhjmmidaihbhaa.D
