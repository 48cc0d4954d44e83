/- What functions that the law reaches compute, on a heap of the run's own: the conditions stand in each theorem. -/
import Derived.Test.YtkhjmmidaihbhaaMfD
set_option linter.unusedSimpArgs false
set_option linter.unusedVariables false
namespace Go.Proofs.Ytkhjmmidaihbhaa.D
open Go Go.Det

def pB2 (z0 : Value) (v : Value) (H : AH) : Option (Value × AH) :=
  match vcells v with
  | [u] => bif one u then some (.agg #[z0, u], H) else none
  | _ => none
theorem v_b2 {P : Program} {T : XTab} (fr : Fr) (H : AH) (dd : Option Nat) (x : Operand) (z0 z1 : Value) : xval P (xc P T) ⟨dd, .build [z0, z1] [(1, 1, x)], none⟩ fr H = (ev fr x).bind fun v => pB2 z0 v H := by
  rw [xval_op dd _ fr H rfl, e_build]
  rcases hx : ev fr x with _ | v
  · simp [xfill, hx]
  · simp only [Option.bind_some, pB2, xfill, hx]
    rcases vcells v with _ | ⟨u, _ | ⟨u2, r⟩⟩
    · rfl
    · cases h : one u
      · simp [h]
      · simp [h, splice, show Nat.ble 2 2 = true from rfl]
    · have hb : (u :: u2 :: r).length.beq 1 = false := by rw [Tr.beq_eq]; simp
      simp only [hb, Bool.false_and, cond_false]
      rfl
theorem pB2_sl (z0 : Value) (p : Option Addr) (l c : Nat) (H : AH) : pB2 z0 (.slice p l c) H = some (.agg #[z0, .slice p l c], H) := rfl
theorem pB2_of (z0 v : Value) (H : AH) (h1 : one v = true) (h2 : vcells v = [v]) : pB2 z0 v H = some (.agg #[z0, v], H) := by unfold pB2; rw [h2]; simp only [h1, cond_true]
def pS2 (v : Value) (H : AH) : Option (Value × AH) :=
  match vcells v with
  | [a, b] => bif one a && one b then some (.slice (some ⟨H.n, 0, none⟩) 1 1, H.push ⟨[a, b], 2, false, false⟩) else none
  | _ => none
theorem v_bs21 {P : Program} {T : XTab} (fr : Fr) (H : AH) (dd : Option Nat) (e : TypeId) (x : Operand) (z0 z1 : Value) : xval P (xc P T) ⟨dd, .bslice e 2 1 [z0, z1] [(0, x)], none⟩ fr H = (ev fr x).bind fun v => pS2 v H := by
  rw [xval_op dd _ fr H rfl, e_bslice]
  rcases hx : ev fr x with _ | v
  · simp [xfill, hx]
  · simp only [List.map_cons, List.map_nil, rep, List.append_nil, Option.bind_some, pS2, xfill, hx]
    rcases vcells v with _ | ⟨a, _ | ⟨b, _ | ⟨d, r⟩⟩⟩
    · rfl
    · have hb : [a].length.beq 2 = false := by rw [Tr.beq_eq]; simp
      simp only [hb, Bool.false_and, cond_false]
      rfl
    · cases h : one a <;> cases h2 : one b <;> simp [h, h2, splice, show Nat.ble 2 2 = true from rfl, show (2 : Nat).beq 2 = true from rfl]
    · have hb : (a :: b :: d :: r).length.beq 2 = false := by rw [Tr.beq_eq]; simp
      simp only [hb, Bool.false_and, cond_false]
      rfl
theorem pS2_of (m : Bool) (v : Value) (H : AH) (h1 : one v = true) : pS2 (.agg #[.bool m, v]) H = some (.slice (some ⟨H.n, 0, none⟩) 1 1, H.push ⟨[.bool m, v], 2, false, false⟩) := by
  have e : vcells (.agg #[.bool m, v]) = [.bool m, v] := rfl
  unfold pS2; rw [e]; simp only [h1, show one (.bool m) = true from rfl, Bool.true_and, cond_true]
theorem pS2_sl (m : Bool) (p : Option Addr) (l c : Nat) (H : AH) : pS2 (.agg #[.bool m, .slice p l c]) H = some (.slice (some ⟨H.n, 0, none⟩) 1 1, H.push ⟨[.bool m, .slice p l c], 2, false, false⟩) := rfl

/-! ### what a byte's places hold -/
theorem msym_get (c : Nat) (m : Bool) (r : Nat) : ∀ (last : Bool) (k : Nat), k < r → (msym c m r last)[2 * k + 1]? = some (c.testBit (r - 1 - k)) ∧ (msym c m r last)[2 * k]? = some (!(c.testBit (r - 1 - k)) && !(if k = 0 then last else c.testBit (r - k)) && !(m && decide (r - 1 - k = 2))) := by
  induction r with
  | zero => intro last k hk; omega
  | succ r ih =>
    intro last k hk
    cases k with
    | zero => simp [msym]
    | succ k =>
      have := ih (c.testBit r) k (by omega)
      have e1 : 2 * (k + 1) + 1 = 2 * k + 1 + 1 + 1 := by omega
      have e2 : 2 * (k + 1) = 2 * k + 1 + 1 := by omega
      have e3 : r + 1 - 1 - (k + 1) = r - 1 - k := by omega
      have e4 : r + 1 - (k + 1) = r - k := by omega
      rw [e1, e3, e4, e2]
      simp only [msym, List.getElem?_cons_succ]
      refine ⟨this.1, ?_⟩
      rw [this.2]
      by_cases hk0 : k = 0
      · subst hk0; simp
      · simp [hk0]

/-- at most one part -/
def OutS (n0 : Nat) (H : AH) (vo : Value) (m : Bool) (bs : List Int) : Prop :=
  (vo = .slice none 0 0 ∧ m = false ∧ bs = []) ∨ ∃ vb, Own n0 2 H vo 1 [.bool m, vb] ∧ OwnB n0 H vb bs ∧ ∀ b, inB vb b → ¬ inB vo b

theorem first_part (n0 : Nat) (H : AH) (m : Bool) (vb : Value) (bs : List Int) (hn : n0 ≤ H.n) (hb : OwnB n0 H vb bs) (Q : Value → AH → Prop) (hq : ∀ vo H', OutS n0 H' vo m bs → Keep n0 H H' → Q vo H') :
    Got (xapp (H.push ⟨[.bool m, vb], 2, false, false⟩) 2 32 (.slice none 0 0) (.slice (some ⟨H.n, 0, none⟩) 1 1)) Q := by
  obtain ⟨s1, s2⟩ := sl_slice hb.1
  have on : Own n0 2 (H.push ⟨[.bool m, vb], 2, false, false⟩) (.slice none 0 0) 0 [] := Own.nil _ _ _
  have ob2 : OwnB n0 (H.push ⟨[.bool m, vb], 2, false, false⟩) vb bs := Own.ext (hext_push _ _) hb
  refine xapp_own on (by simp; omega) (Sl.pushed H [.bool m, vb] 2 1 false false rfl) (by simp [s1, show one (.bool m) = true from rfl]) (by omega) (by omega) (by omega) ?_
  intro vo H' o st
  have hx : HExt (H.push ⟨[.bool m, vb], 2, false, false⟩) H' := ⟨st.n, fun b hb => st.get b hb fun ⟨o, l, c, e⟩ => by cases e⟩
  refine hq vo H' (.inr ⟨vb, by simpa using o, Own.ext hx ob2, fun b hbv hv => ?_⟩) (Keep.trans (HExt.keep (hext_push H _) hn) (HExt.keep hx (by simp; omega)))
  rcases st.new b hv with h | h
  · obtain ⟨o, l, c, e⟩ := h; cases e
  · have := Sl.lt ob2.1 hbv; omega

set_option maxHeartbeats 8000000 in
theorem rp_l1 (n0 : Nat) (vd vc : Value) (q : List Bool) (n : Nat) (hqn : q.length = 2 * n) (hn : n ≤ 100000) (hvd : ∀ b, inB vd b → b < n0) (hvc : ∀ b, inB vc b → b < n0) (m : Bool) (rest : List Int) : ∀ (pre : List Bool) (s : Nat) (last : Bool) (bs : List Int) (vo : Value) (H : AH) (Q : XExit → Fr → AH → Prop), Boos H vd (dataL (2 * n) q n) → Boos H vc (clockL (2 * n) q n) → B8 rest → q = pre ++ (syms rest last ++ [false, true]) → pre.length = 16 * s → n = 8 * (s + rest.length) + 1 → OutS n0 H vo m bs → n0 ≤ H.n → bs.length + rest.length ≤ 100000 →
    (∀ vo' H' last' j, OutS n0 H' vo' m (bs ++ rest) → Keep n0 H H' → Q (.exit 0) [(8, vd), (9, vc), (10, vo'), (11, .bool last'), (12, .int .i64 j), (40, .bool false)] H') →
    Run Try.prog tab (.loop xmfm_ReadParts_l1) [(8, vd), (9, vc), (10, vo), (11, .bool last), (12, .int .i64 ((8 * s : Nat) : Int))] H Q := by
  induction rest with
  | nil =>
    intro pre s last bs vo H Q hd hc h8 hqe hpl hns ho hnn hbl hq
    rw [run_loop]
    generalize hL : XCode.loop xmfm_ReadParts_l1 = LL
    have e1 := boos_len hd
    rw [dataL_len] at e1
    have w1 : IntKind.i64.wrap (((n : Nat) : Int) - 1) = ((n - 1 : Nat) : Int) := by rw [wrI _ (by omega) (by omega)]; omega
    have hf : ¬ ((8 * s : Nat) : Int) < ((n - 1 : Nat) : Int) := by simp at hns; omega
    simp only [xmfm_ReadParts_l1, ofArgs, run_seq, run_block, run_ops, run_skip, run_exit, run_ret, thenQ_normal, thenQ_exit, thenQ_ret, blockQ_normal, blockQ_exit, blockQ_ret, retQ_ret, retQ_normal, ops_nil, ops_none, got_some, ops_wT, ops_wTn, ops_wF, ops_wFn, ops_wU, dops_wT, dops_wTn, dops_wF, dops_wFn, dops_wU, run_condT, run_condF, alt2_int, altB_bool, altI_int, altBB_bool, v_min, v_max, v_not, v_neg, optEv_none, optEv_some, isSome'_none, isSome'_some, pExt0, pExt1, pExt2, Bool.false_and, Bool.true_and, Bool.not_true, Bool.not_false, cond_true, cond_false, dops_nil, dops_none, xval_call, v_mov, v_bin, v_len, v_ext, v_idxA, v_ld, v_st, v_app, v_appN, v_cvs, v_bs1, pBs1, v_slc, v_conv, v_fld, v_fldA, v_new, v_box, v_mks, v_copy, v_isnil, v_nilck, v_pick, ev, evs_nil, evs_cons, fr_get_cons, fr_put_nil, fr_put_cons, fr_put_some, fr_put_none, fr_keep_nil, fr_keep_cons, fr_has_nil, fr_has_cons, Option.bind_some, Option.map_some, xbin, ibin, xresult_eq, xress_nil, xress_tmp, resV, ex_some, if_true, if_false, ite_true, ite_false, reduceIte, reduceCtorEq, Nat.reduceEqDiff, Nat.reduceLT, Nat.reduceLeDiff, Int.reduceLT, Int.reduceLE, Nat.zero_add, Nat.reduceAdd, Bool.false_eq_true, decide_eq_true_eq, decide_eq_false_iff_not, true_implies, false_implies, and_true, true_and, e1, w1, hf, decide_false]
    exact hq vo H last _ (by simpa using ho) (.refl _ _)
  | cons a rest ih =>
    intro pre s last bs vo H Q hd hc h8 hqe hpl hns ho hnn hbl hq
    simp only [List.length_cons] at hns hbl
    have ha := h8 a (by simp)
    obtain ⟨c, rfl⟩ : ∃ c : Nat, a = (c : Int) := ⟨a.toNat, by omega⟩
    have hc256 : c < 256 := by omega
    have ih' := ih (pre ++ msym c false 8 last) (s + 1) (c.testBit 0)
    rw [run_loop]
    generalize hL : XCode.loop xmfm_ReadParts_l1 = LL
    rw [hL] at ih'
    have e1 := boos_len hd
    rw [dataL_len] at e1
    have w1 : IntKind.i64.wrap (((n : Nat) : Int) - 1) = ((n - 1 : Nat) : Int) := by rw [wrI _ (by omega) (by omega)]; omega
    have hlt : ((8 * s : Nat) : Int) < ((n - 1 : Nat) : Int) := by omega
    have hqs : q = pre ++ (msym c false 8 last ++ (syms rest (c.testBit 0) ++ [false, true])) := by rw [hqe]; simp [syms]
    have hdk : ∀ k, k < 8 → (dataL (2 * n) q n)[8 * s + k]? = some (c.testBit (7 - k)) := by
      intro k hk
      have h1 := (msym_get c false 8 last k hk).1
      rw [dataL_get _ _ _ _ (by omega), hqs, List.getD_eq_getElem?_getD, List.getElem?_append_right (by omega), show 2 * (8 * s + k) + 1 - pre.length = 2 * k + 1 by omega, List.getElem?_append_left (by rw [msym_len]; omega), h1]
      have : 2 * (8 * s + k) + 1 < 2 * n := by omega
      simp [this]
    have hck : ∀ k, k < 8 → (clockL (2 * n) q n)[8 * s + k]? = some (!(c.testBit (7 - k)) && !(lastAt c last k) && !(false && decide (k = 5))) := by
      intro k hk
      have h1 := (msym_get c false 8 last k hk).2
      rw [clockL_get _ _ _ _ (by omega), hqs, List.getD_eq_getElem?_getD, List.getElem?_append_right (by omega), show 2 * (8 * s + k) - pre.length = 2 * k by omega, List.getElem?_append_left (by rw [msym_len]; omega), h1]
      have : 2 * (8 * s + k) < 2 * n := by omega
      simp [this, lastAt]
    have d5 := hdk 5 (by omega)
    have d4 := hdk 4 (by omega)
    have c5 := hck 5 (by omega)
    have l5 : lastAt c last 5 = c.testBit 3 := rfl
    rw [show 7 - 5 = 2 from rfl] at d5 c5
    rw [show 7 - 4 = 3 from rfl] at d4
    rw [l5] at c5
    have wx5 : IntKind.i64.wrap (((8 * s : Nat) : Int) + 5) = ((8 * s + 5 : Nat) : Int) := by rw [wrI _ (by omega) (by omega)]; omega
    have wx4 : IntKind.i64.wrap (((8 * s : Nat) : Int) + 4) = ((8 * s + 4 : Nat) : Int) := by rw [wrI _ (by omega) (by omega)]; omega
    have wx8 : IntKind.i64.wrap (((8 * s : Nat) : Int) + 8) = ((8 * (s + 1) : Nat) : Int) := by rw [wrI _ (by omega) (by omega)]; omega
    have i5 := boos_idx hd ((8 * s + 5 : Nat) : Int) (8 * s + 5) rfl (by rw [dataL_len]; omega)
    have i4 := boos_idx hd ((8 * s + 4 : Nat) : Int) (8 * s + 4) rfl (by rw [dataL_len]; omega)
    have j5 := boos_idx hc ((8 * s + 5 : Nat) : Int) (8 * s + 5) rfl (by rw [clockL_len]; omega)
    have v5 := boos_ld hd (8 * s + 5) _ d5
    have v4 := boos_ld hd (8 * s + 4) _ d4
    have u5 := boos_ld hc (8 * s + 5) _ c5
    have inner := rp_l0 vd vc vo (dataL (2 * n) q n) (clockL (2 * n) q n) (8 * s) c hc256 false last H hd hc (by rw [dataL_len]; omega) (by rw [clockL_len]; omega) (by omega) hdk hck 8 0 0
    have h00 : c >>> (8 - 0) = 0 := by rw [Nat.shiftRight_eq_div_pow]; omega
    rw [h00] at inner
    have hl0 : lastAt c last 0 = last := rfl
    rw [hl0] at inner
    have wc := wrU8' (c : Int) (by omega) (by omega)
    -- what follows the bits
    have next : ∀ vo' H', OutS n0 H' vo' m (bs ++ [(c : Int)]) → Keep n0 H H' → Run Try.prog tab LL [(8, vd), (9, vc), (10, vo'), (11, .bool (c.testBit 0)), (12, .int .i64 ((8 * (s + 1) : Nat) : Int))] H' Q := by
      intro vo' H' o' k'
      refine ih' (bs ++ [(c : Int)]) vo' H' Q (Sl.keep k' hd hvd) (Sl.keep k' hc hvc) (fun b hb => h8 b (by simp [hb])) (by rw [hqs]; simp) (by simp [msym_len]; omega) (by omega) o' (by have := k'.1; omega) (by simp; omega) ?_
      intro vo2 H2 last2 j o2 k2
      exact hq vo2 H2 last2 j (by simpa using o2) (k'.trans k2)
    clear hdk hck d5 d4 c5 ih ih'
    have n0int : ((0 : Nat) : Int) = 0 := rfl
    rw [n0int] at inner
    rcases ho with ⟨rfl, rfl, rfl⟩ | ⟨vb, ov, ob, hdis⟩
    · have el : ∀ H, pLen (.slice none 0 0) H = some (.int .i64 0, H) := fun _ => rfl
      have fin : ∀ (p : Prop), (p → True) → True := fun _ _ => trivial
      cases hb2 : c.testBit 2 <;> cases hb3 : c.testBit 3 <;>
        (rw [hb2] at v5 u5
         rw [hb3] at v4 u5
         simp only [Bool.not_true, Bool.not_false, Bool.and_true, Bool.and_false, Bool.true_and, Bool.false_and] at u5
         simp only [xmfm_ReadParts_l1, ofArgs, run_seq, run_block, run_ops, run_skip, run_exit, run_ret, thenQ_normal, thenQ_exit, thenQ_ret, blockQ_normal, blockQ_exit, blockQ_ret, retQ_ret, retQ_normal, ops_nil, ops_none, got_some, ops_wT, ops_wTn, ops_wF, ops_wFn, ops_wU, dops_wT, dops_wTn, dops_wF, dops_wFn, dops_wU, run_condT, run_condF, alt2_int, altB_bool, altI_int, altBB_bool, v_min, v_max, v_not, v_neg, optEv_none, optEv_some, isSome'_none, isSome'_some, pExt0, pExt1, pExt2, Bool.false_and, Bool.true_and, Bool.not_true, Bool.not_false, cond_true, cond_false, dops_nil, dops_none, xval_call, v_mov, v_bin, v_len, v_ext, v_idxA, v_ld, v_st, v_app, v_appN, v_cvs, v_bs1, pBs1, v_slc, v_conv, v_fld, v_fldA, v_new, v_box, v_mks, v_copy, v_isnil, v_nilck, v_pick, ev, evs_nil, evs_cons, fr_get_cons, fr_put_nil, fr_put_cons, fr_put_some, fr_put_none, fr_keep_nil, fr_keep_cons, fr_has_nil, fr_has_cons, Option.bind_some, Option.map_some, xbin, ibin, xresult_eq, xress_nil, xress_tmp, resV, ex_some, if_true, if_false, ite_true, ite_false, reduceIte, reduceCtorEq, Nat.reduceEqDiff, Nat.reduceLT, Nat.reduceLeDiff, Int.reduceLT, Int.reduceLE, Nat.zero_add, Nat.reduceAdd, Bool.false_eq_true, decide_eq_true_eq, decide_eq_false_iff_not, true_implies, false_implies, and_true, true_and, e1, w1, hlt, decide_true, wx5, wx4, i5, i4, j5, v5, v4, u5]
         refine inner _ (by omega) rfl ?_
         simp only [ofArgs, run_seq, run_block, run_ops, run_skip, run_exit, run_ret, thenQ_normal, thenQ_exit, thenQ_ret, blockQ_normal, blockQ_exit, blockQ_ret, retQ_ret, retQ_normal, ops_nil, ops_none, got_some, ops_wT, ops_wTn, ops_wF, ops_wFn, ops_wU, dops_wT, dops_wTn, dops_wF, dops_wFn, dops_wU, run_condT, run_condF, alt2_int, altB_bool, altI_int, altBB_bool, v_min, v_max, v_not, v_neg, optEv_none, optEv_some, isSome'_none, isSome'_some, pExt0, pExt1, pExt2, Bool.false_and, Bool.true_and, Bool.not_true, Bool.not_false, cond_true, cond_false, dops_nil, dops_none, xval_call, v_mov, v_bin, v_len, v_ext, v_idxA, v_ld, v_st, v_app, v_appN, v_cvs, v_bs1, pBs1, v_slc, v_conv, v_fld, v_fldA, v_new, v_box, v_mks, v_copy, v_isnil, v_nilck, v_pick, ev, evs_nil, evs_cons, fr_get_cons, fr_put_nil, fr_put_cons, fr_put_some, fr_put_none, fr_keep_nil, fr_keep_cons, fr_has_nil, fr_has_cons, Option.bind_some, Option.map_some, xbin, ibin, xresult_eq, xress_nil, xress_tmp, resV, ex_some, if_true, if_false, ite_true, ite_false, reduceIte, reduceCtorEq, Nat.reduceEqDiff, Nat.reduceLT, Nat.reduceLeDiff, Int.reduceLT, Int.reduceLE, Nat.zero_add, Nat.reduceAdd, Bool.false_eq_true, decide_eq_true_eq, decide_eq_false_iff_not, true_implies, false_implies, and_true, true_and, el, pConv, wc, v_b2, pB2_sl, v_bs21, pS2_sl, beq_self_eq_true]
         refine first_part n0 (H.push ⟨[.int .u8 (c : Int)], 1, false, false⟩) false (.slice (some ⟨H.n, 0, none⟩) 1 1) [(c : Int)] (by simp; omega) ?_ _ ?_
         · exact Own.le (Own.pushed H [.int .u8 (c : Int)] 1 1 false rfl) hnn
         intro vo' H' o' k'
         simp only [ofArgs, run_seq, run_block, run_ops, run_skip, run_exit, run_ret, thenQ_normal, thenQ_exit, thenQ_ret, blockQ_normal, blockQ_exit, blockQ_ret, retQ_ret, retQ_normal, ops_nil, ops_none, got_some, ops_wT, ops_wTn, ops_wF, ops_wFn, ops_wU, dops_wT, dops_wTn, dops_wF, dops_wFn, dops_wU, run_condT, run_condF, alt2_int, altB_bool, altI_int, altBB_bool, v_min, v_max, v_not, v_neg, optEv_none, optEv_some, isSome'_none, isSome'_some, pExt0, pExt1, pExt2, Bool.false_and, Bool.true_and, Bool.not_true, Bool.not_false, cond_true, cond_false, dops_nil, dops_none, xval_call, v_mov, v_bin, v_len, v_ext, v_idxA, v_ld, v_st, v_app, v_appN, v_cvs, v_bs1, pBs1, v_slc, v_conv, v_fld, v_fldA, v_new, v_box, v_mks, v_copy, v_isnil, v_nilck, v_pick, ev, evs_nil, evs_cons, fr_get_cons, fr_put_nil, fr_put_cons, fr_put_some, fr_put_none, fr_keep_nil, fr_keep_cons, fr_has_nil, fr_has_cons, Option.bind_some, Option.map_some, xbin, ibin, xresult_eq, xress_nil, xress_tmp, resV, ex_some, if_true, if_false, ite_true, ite_false, reduceIte, reduceCtorEq, Nat.reduceEqDiff, Nat.reduceLT, Nat.reduceLeDiff, Int.reduceLT, Int.reduceLE, Nat.zero_add, Nat.reduceAdd, Bool.false_eq_true, decide_eq_true_eq, decide_eq_false_iff_not, true_implies, false_implies, and_true, true_and, wx8]
         exact next vo' H' o' (Keep.trans (HExt.keep (hext_push H _) hnn) k'))
    · obtain ⟨B, o, cp, blk, rfl, _⟩ := ov.1.live (by omega)
      have el : ∀ H, pLen (.slice (some ⟨B, o, none⟩) 1 cp) H = some (.int .i64 1, H) := fun _ => rfl
      have c10 : ((1 : Int) == 0) = false := rfl
      have w0 : IntKind.i64.wrap (1 - 1) = 0 := rfl
      have ei : pIdx 2 (.slice (some ⟨B, o, none⟩) 1 cp) (.int .i64 0) H = some (.pointer (some ⟨B, o, none⟩), H) := (ld_part ov.1).1
      have eld : pLd none (.pointer (some ⟨B, o + 1, none⟩)) H = some (vb, H) := pLd_one ov.1 1 vb rfl
      have stp : ∀ vb' H', OwnB n0 H' vb' (bs ++ [(c : Int)]) → Stp vb H vb' H' → Got (pSt 1 (.pointer (some ⟨B, o + 1, none⟩)) vb' H') fun v H2 => Run Try.prog tab LL [(8, vd), (9, vc), (10, .slice (some ⟨B, o, none⟩) 1 cp), (11, .bool (c.testBit 0)), (12, .int .i64 ((8 * (s + 1) : Nat) : Int))] H2 Q := by
        intro vb' H' ob' st
        have hd2 : ∀ b, inB (Value.slice (some ⟨B, o, none⟩) 1 cp) b → ¬ inB vb b := fun b h1 h2 => hdis b h2 h1
        have ov' := Own.stp st ov hd2
        obtain ⟨s1, s2⟩ := sl_slice ob'.1
        refine pSt_own (v := .slice (some ⟨B, o, none⟩) 1 cp) (j := 1) ov' (by simp) s1 s2 ?_
        intro H2 ov2 st2'
        have hap := st.apart ov hd2
        refine next _ H2 (.inr ⟨vb', by simpa using ov2, Own.stp st2' ob' (fun b h1 h2 => hap b h2 h1), fun b h1 h2 => hap b h2 h1⟩) ((st.keep ob hnn).trans (st2'.keep ov' (by have := st.n; omega)))
      cases hb2 : c.testBit 2 <;> cases hb3 : c.testBit 3 <;>
        (rw [hb2] at v5 u5
         rw [hb3] at v4 u5
         simp only [Bool.not_true, Bool.not_false, Bool.and_true, Bool.and_false, Bool.true_and, Bool.false_and] at u5
         simp only [xmfm_ReadParts_l1, ofArgs, run_seq, run_block, run_ops, run_skip, run_exit, run_ret, thenQ_normal, thenQ_exit, thenQ_ret, blockQ_normal, blockQ_exit, blockQ_ret, retQ_ret, retQ_normal, ops_nil, ops_none, got_some, ops_wT, ops_wTn, ops_wF, ops_wFn, ops_wU, dops_wT, dops_wTn, dops_wF, dops_wFn, dops_wU, run_condT, run_condF, alt2_int, altB_bool, altI_int, altBB_bool, v_min, v_max, v_not, v_neg, optEv_none, optEv_some, isSome'_none, isSome'_some, pExt0, pExt1, pExt2, Bool.false_and, Bool.true_and, Bool.not_true, Bool.not_false, cond_true, cond_false, dops_nil, dops_none, xval_call, v_mov, v_bin, v_len, v_ext, v_idxA, v_ld, v_st, v_app, v_appN, v_cvs, v_bs1, pBs1, v_slc, v_conv, v_fld, v_fldA, v_new, v_box, v_mks, v_copy, v_isnil, v_nilck, v_pick, ev, evs_nil, evs_cons, fr_get_cons, fr_put_nil, fr_put_cons, fr_put_some, fr_put_none, fr_keep_nil, fr_keep_cons, fr_has_nil, fr_has_cons, Option.bind_some, Option.map_some, xbin, ibin, xresult_eq, xress_nil, xress_tmp, resV, ex_some, if_true, if_false, ite_true, ite_false, reduceIte, reduceCtorEq, Nat.reduceEqDiff, Nat.reduceLT, Nat.reduceLeDiff, Int.reduceLT, Int.reduceLE, Nat.zero_add, Nat.reduceAdd, Bool.false_eq_true, decide_eq_true_eq, decide_eq_false_iff_not, true_implies, false_implies, and_true, true_and, e1, w1, hlt, decide_true, wx5, wx4, i5, i4, j5, v5, v4, u5]
         refine inner _ (by omega) rfl ?_
         simp only [ofArgs, run_seq, run_block, run_ops, run_skip, run_exit, run_ret, thenQ_normal, thenQ_exit, thenQ_ret, blockQ_normal, blockQ_exit, blockQ_ret, retQ_ret, retQ_normal, ops_nil, ops_none, got_some, ops_wT, ops_wTn, ops_wF, ops_wFn, ops_wU, dops_wT, dops_wTn, dops_wF, dops_wFn, dops_wU, run_condT, run_condF, alt2_int, altB_bool, altI_int, altBB_bool, v_min, v_max, v_not, v_neg, optEv_none, optEv_some, isSome'_none, isSome'_some, pExt0, pExt1, pExt2, Bool.false_and, Bool.true_and, Bool.not_true, Bool.not_false, cond_true, cond_false, dops_nil, dops_none, xval_call, v_mov, v_bin, v_len, v_ext, v_idxA, v_ld, v_st, v_app, v_appN, v_cvs, v_bs1, pBs1, v_slc, v_conv, v_fld, v_fldA, v_new, v_box, v_mks, v_copy, v_isnil, v_nilck, v_pick, ev, evs_nil, evs_cons, fr_get_cons, fr_put_nil, fr_put_cons, fr_put_some, fr_put_none, fr_keep_nil, fr_keep_cons, fr_has_nil, fr_has_cons, Option.bind_some, Option.map_some, xbin, ibin, xresult_eq, xress_nil, xress_tmp, resV, ex_some, if_true, if_false, ite_true, ite_false, reduceIte, reduceCtorEq, Nat.reduceEqDiff, Nat.reduceLT, Nat.reduceLeDiff, Int.reduceLT, Int.reduceLE, Nat.zero_add, Nat.reduceAdd, Bool.false_eq_true, decide_eq_true_eq, decide_eq_false_iff_not, true_implies, false_implies, and_true, true_and, el, c10, w0, ei, pNil_ptr, pFldA_ptr, eld, pConv, wc]
         refine app_oneB ob hnn (by omega) ?_
         intro vb' H' ob' st
         refine (stp vb' H' ob' st).mono ?_
         intro v H2 hr
         simp only [ofArgs, run_seq, run_block, run_ops, run_skip, run_exit, run_ret, thenQ_normal, thenQ_exit, thenQ_ret, blockQ_normal, blockQ_exit, blockQ_ret, retQ_ret, retQ_normal, ops_nil, ops_none, got_some, ops_wT, ops_wTn, ops_wF, ops_wFn, ops_wU, dops_wT, dops_wTn, dops_wF, dops_wFn, dops_wU, run_condT, run_condF, alt2_int, altB_bool, altI_int, altBB_bool, v_min, v_max, v_not, v_neg, optEv_none, optEv_some, isSome'_none, isSome'_some, pExt0, pExt1, pExt2, Bool.false_and, Bool.true_and, Bool.not_true, Bool.not_false, cond_true, cond_false, dops_nil, dops_none, xval_call, v_mov, v_bin, v_len, v_ext, v_idxA, v_ld, v_st, v_app, v_appN, v_cvs, v_bs1, pBs1, v_slc, v_conv, v_fld, v_fldA, v_new, v_box, v_mks, v_copy, v_isnil, v_nilck, v_pick, ev, evs_nil, evs_cons, fr_get_cons, fr_put_nil, fr_put_cons, fr_put_some, fr_put_none, fr_keep_nil, fr_keep_cons, fr_has_nil, fr_has_cons, Option.bind_some, Option.map_some, xbin, ibin, xresult_eq, xress_nil, xress_tmp, resV, ex_some, if_true, if_false, ite_true, ite_false, reduceIte, reduceCtorEq, Nat.reduceEqDiff, Nat.reduceLT, Nat.reduceLeDiff, Int.reduceLT, Int.reduceLE, Nat.zero_add, Nat.reduceAdd, Bool.false_eq_true, decide_eq_true_eq, decide_eq_false_iff_not, true_implies, false_implies, and_true, true_and, wx8]
         exact hr)
end Go.Proofs.Ytkhjmmidaihbhaa.D
