/- What functions that the law reaches compute, on a heap of the run's own: the conditions stand in each theorem. -/
import Derived.Test.YtkhjmmidaihbhaaCrcM
import Derived.Test.YtkhjmmidaihbhaaDet25
set_option linter.unusedSimpArgs false
set_option linter.unusedVariables false
namespace Go.Proofs.Ytkhjmmidaihbhaa.D
open Go Go.Det

/-- a slice of slices of bytes: the outer one is ours (from n0 on), the inner ones lie beside it and beside what F names -/
def OwnS (n0 : Nat) (F : Nat → Prop) (H : AH) (v : Value) (L : List (List Int)) : Prop :=
  ∃ vs : List Value, Own n0 1 H v L.length vs ∧ ∀ (i : Nat) (x : Value), vs[i]? = some x → (∃ l, L[i]? = some l ∧ Byts H x l) ∧ ∀ b, inB x b → ¬ inB v b ∧ ¬ F b
/-- to be read only -/
def Secs (H : AH) (v : Value) (L : List (List Int)) : Prop :=
  ∃ vs : List Value, Sl H 1 v L.length vs ∧ ∀ (i : Nat) (x : Value), vs[i]? = some x → ∃ l, L[i]? = some l ∧ Byts H x l

theorem Sl.same {H H' : AH} {sz n : Nat} {v : Value} {cs : List Value} (h : Sl H sz v n cs) (hn : H.n ≤ H'.n) (hg : ∀ b, inB v b → H'.get b = H.get b) : Sl H' sz v n cs := by
  rcases h with h | ⟨C, o, h1, h2, h3, h4⟩ | ⟨C, o, c, b, h1, h2, h3, h4⟩
  · exact .inl h
  · exact .inr (.inl ⟨C, o, h1, by omega, (hg C ⟨_, _, _, h1⟩).trans h3, h4⟩)
  · exact .inr (.inr ⟨C, o, c, b, h1, by omega, (hg C ⟨_, _, _, h1⟩).trans h3, h4⟩)
theorem Own.same {H H' : AH} {n0 sz n : Nat} {v : Value} {cs : List Value} (h : Own n0 sz H v n cs) (hn : H.n ≤ H'.n) (hg : ∀ b, inB v b → H'.get b = H.get b) : Own n0 sz H' v n cs := by
  refine ⟨Sl.same h.1 hn hg, fun C o l c e => ?_⟩
  obtain ⟨a, blk, b, c⟩ := h.2 C o l c e
  exact ⟨a, blk, (hg C ⟨_, _, _, e⟩).trans b, c⟩
theorem Secs.ext {H H' : AH} {v : Value} {L : List (List Int)} (hx : HExt H H') (h : Secs H v L) : Secs H' v L := by
  obtain ⟨vs, h1, h2⟩ := h
  refine ⟨vs, Sl.ext hx h1, fun i x hi => ?_⟩
  obtain ⟨l, h3, h4⟩ := h2 i x hi
  exact ⟨l, h3, Sl.ext hx h4⟩
theorem OwnS.secs {n0 : Nat} {F : Nat → Prop} {H : AH} {v : Value} {L : List (List Int)} (h : OwnS n0 F H v L) : Secs H v L := by
  obtain ⟨vs, h1, h2⟩ := h
  exact ⟨vs, h1.1, fun i x hi => (h2 i x hi).1⟩
theorem OwnS.mono {n0 : Nat} {F : Nat → Prop} {H H' : AH} {v : Value} {L : List (List Int)} (h : OwnS n0 F H v L) (hF : ∀ b, F b → b < n0) (hn : H.n ≤ H'.n) (hg : ∀ b, b < H.n → ¬ F b → H'.get b = H.get b) : OwnS n0 F H' v L := by
  obtain ⟨vs, h1, h2⟩ := h
  refine ⟨vs, Own.same h1 hn fun b hb => hg b (h1.1.lt hb) fun hf => ?_, fun i x hi => ?_⟩
  · obtain ⟨o, l, c, e⟩ := hb
    have := (h1.2 b o l c e).1
    have := hF b hf
    omega
  · obtain ⟨⟨l, h3, h4⟩, h5⟩ := h2 i x hi
    exact ⟨⟨l, h3, Sl.same h4 hn fun b hb => hg b (Sl.lt h4 hb) (h5 b hb).2⟩, h5⟩
theorem OwnS.ext {n0 : Nat} {F : Nat → Prop} {H H' : AH} {v : Value} {L : List (List Int)} (h : OwnS n0 F H v L) (hF : ∀ b, F b → b < n0) (hx : HExt H H') : OwnS n0 F H' v L :=
  h.mono hF hx.1 fun b hb _ => hx.2 b hb
theorem OwnS.nil (n0 : Nat) (F : Nat → Prop) (H : AH) : OwnS n0 F H (.slice none 0 0) [] := ⟨[], Own.nil _ _ _, fun i x hi => by simp at hi⟩
theorem OwnS.len {n0 : Nat} {F : Nat → Prop} {H : AH} {v : Value} {L : List (List Int)} (h : OwnS n0 F H v L) : pLen v H = some (.int .i64 (L.length : Int), H) := by
  obtain ⟨vs, h1, _⟩ := h
  exact pLen_ok h1.1
theorem Secs.len {H : AH} {v : Value} {L : List (List Int)} (h : Secs H v L) : pLen v H = some (.int .i64 (L.length : Int), H) := by
  obtain ⟨vs, h1, _⟩ := h
  exact pLen_ok h1
/-- one sector is read -/
theorem Secs.at {H : AH} {v : Value} {L : List (List Int)} (h : Secs H v L) (i : Int) (k : Nat) (hi : i = (k : Int)) (hk : k < L.length) :
    ∃ x, pIdx 1 v (.int .i64 i) H = some (ptrAt v k, H) ∧ pLd none (ptrAt v k) H = some (x, H) ∧ Byts H x (L[k]'hk) := by
  obtain ⟨vs, h1, h2⟩ := h
  have hl := h1.len
  have hkv : k < vs.length := by omega
  obtain ⟨l, h3, h4⟩ := h2 k _ (List.getElem?_eq_getElem hkv)
  rw [List.getElem?_eq_getElem hk] at h3
  cases h3
  exact ⟨vs[k], pIdx_one h1 .i64 i k hi hk, pLd_one h1 k _ (List.getElem?_eq_getElem hkv), h4⟩
theorem Secs.sl {H : AH} {v : Value} {L : List (List Int)} (h : Secs H v L) : one v = true ∧ vcells v = [v] ∧ veq v v = true := by
  obtain ⟨vs, h1, _⟩ := h
  exact ⟨(sl_slice h1).1, (sl_slice h1).2, h1.veq⟩
/-- one sector more -/
theorem appS {n0 : Nat} {F : Nat → Prop} {H : AH} {v x : Value} {L : List (List Int)} {l : List Int} {Q : Value → AH → Prop} (h : OwnS n0 F H v L) (hn : n0 ≤ H.n) (hx : Byts H x l) (hd : ∀ b, inB x b → ¬ inB v b ∧ ¬ F b) (hle : L.length + 1 ≤ 1000)
    (hq : ∀ v' H', OwnS n0 F H' v' (L ++ [l]) → Stp v H v' H' → Q v' H') : Got (xapp (H.push ⟨[x], 1, false, false⟩) 1 24 v (.slice (some ⟨H.n, 0, none⟩) 1 1)) Q := by
  obtain ⟨vs, h1, h2⟩ := h
  have hvl := h1.1.len
  obtain ⟨o1, o2⟩ := sl_slice hx
  refine xapp_own (Own.ext (hext_push H _) h1) (by simp; omega) (Sl.pushed H [x] 1 1 false false rfl) (by simp [o1]) (Nat.le_refl _) (by omega) (by omega) ?_
  intro v' H' k1 k2
  have st : Stp v H v' H' := ⟨by have := k2.n; simp at this; omega, fun b hb hnb => by rw [k2.get b (by simp; omega) hnb, AH.get_push, if_neg (by omega)], fun b h => by
    rcases k2.new b h with h | h
    · exact .inl h
    · exact .inr (by simp at h; omega)⟩
  refine hq v' H' ⟨vs ++ [x], by simpa using k1, fun i y hi => ?_⟩ st
  have key : ∀ y l', Byts H y l' → (∀ b, inB y b → ¬ inB v b ∧ ¬ F b) → Byts H' y l' ∧ ∀ b, inB y b → ¬ inB v' b ∧ ¬ F b := by
    intro y l' hy hdy
    refine ⟨Sl.same hy st.n fun b hb => st.get b (Sl.lt hy hb) (hdy b hb).1, fun b hb => ⟨fun hv' => ?_, (hdy b hb).2⟩⟩
    rcases st.new b hv' with h | h
    · exact (hdy b hb).1 h
    · have := Sl.lt hy hb; omega
  rcases Nat.lt_or_ge i vs.length with hlt | hge
  · rw [List.getElem?_append_left hlt] at hi
    obtain ⟨⟨l', g1, g2⟩, g3⟩ := h2 i y hi
    obtain ⟨g4, g5⟩ := key y l' g2 g3
    exact ⟨⟨l', by rw [List.getElem?_append_left (by omega)]; exact g1, g4⟩, g5⟩
  · rw [List.getElem?_append_right hge] at hi
    have hi0 : i - vs.length = 0 := by
      rcases Nat.eq_zero_or_pos (i - vs.length) with h0 | h0
      · exact h0
      · rw [List.getElem?_eq_none (by simp; omega)] at hi; cases hi
    rw [hi0] at hi
    simp at hi; subst hi
    obtain ⟨g4, g5⟩ := key x l hx hd
    refine ⟨⟨l, ?_, g4⟩, g5⟩
    rw [List.getElem?_append_right (by omega), show i - L.length = 0 by omega]
    rfl
/-- another sector at a place -/
theorem stS {n0 : Nat} {F : Nat → Prop} {H : AH} {v x : Value} {L : List (List Int)} {l : List Int} {Q : Value → AH → Prop} (h : OwnS n0 F H v L) (hx : Byts H x l) (hd : ∀ b, inB x b → ¬ inB v b ∧ ¬ F b) {k : Nat} (hk : k < L.length)
    (hq : ∀ H', OwnS n0 F H' v (L.set k l) → Stp v H v H' → Q undef H') : Got (pSt 1 (ptrAt v k) x H) Q := by
  obtain ⟨vs, h1, h2⟩ := h
  have hvl := h1.1.len
  obtain ⟨o1, o2⟩ := sl_slice hx
  refine pSt_own h1 (by omega) o1 o2 ?_
  intro H' k1 st
  refine hq H' ⟨vs.set k x, by simpa using k1, fun i y hi => ?_⟩ st
  have key : ∀ y l', Byts H y l' → (∀ b, inB y b → ¬ inB v b ∧ ¬ F b) → Byts H' y l' := fun y l' hy hdy => Sl.same hy st.n fun b hb => st.get b (Sl.lt hy hb) (hdy b hb).1
  by_cases hik : k = i
  · subst hik
    rw [List.getElem?_set_self (by omega)] at hi
    cases hi
    exact ⟨⟨l, by rw [List.getElem?_set_self hk], key x l hx hd⟩, hd⟩
  · rw [List.getElem?_set_ne hik] at hi
    obtain ⟨⟨l', g1, g2⟩, g3⟩ := h2 i y hi
    exact ⟨⟨l', by rw [List.getElem?_set_ne hik]; exact g1, key y l' g2 g3⟩, g3⟩

/-! ### image.Check -/
theorem imcheck_l0 (v : Value) (H : AH) (L : List (List Int)) (hs : Secs H v L) (hl : ∀ l ∈ L, l.length = 128) (hL : L.length ≤ 1000) (r : Nat) : ∀ (k : Nat) (i N : Int) (Q : XExit → Fr → AH → Prop), k + r = L.length → i = (k : Int) → N = (L.length : Int) →
    Q (.exit 0) [(33, v), (34, .int .i64 N), (35, .int .i64 N), (36, .bool false)] H → Run Try.prog tab (.loop ximage_Check_l0) [(33, v), (34, .int .i64 N), (35, .int .i64 i)] H Q := by
  induction r with
  | zero =>
    intro k i N Q hk hi hN hq
    rw [run_loop]
    generalize hL : XCode.loop ximage_Check_l0 = LL
    obtain rfl : i = N := by omega
    have hf : ¬ i < i := by omega
    simp only [ximage_Check_l0, ofArgs, run_seq, run_block, run_ops, run_skip, run_exit, run_ret, thenQ_normal, thenQ_exit, thenQ_ret, blockQ_normal, blockQ_exit, blockQ_ret, retQ_ret, retQ_normal, ops_nil, ops_none, got_some, ops_wT, ops_wTn, ops_wF, ops_wFn, ops_wU, dops_wT, dops_wTn, dops_wF, dops_wFn, dops_wU, run_condT, run_condF, alt2_int, altB_bool, altI_int, altBB_bool, v_min, v_max, v_not, v_neg, optEv_none, optEv_some, isSome'_none, isSome'_some, pExt0, pExt1, pExt2, Bool.false_and, Bool.true_and, Bool.not_true, Bool.not_false, cond_true, cond_false, dops_nil, dops_none, xval_call, v_mov, v_bin, v_len, v_ext, v_idxA, v_ld, v_st, v_app, v_appN, v_cvs, v_bs1, pBs1, v_slc, v_conv, v_fld, v_fldA, v_new, v_box, v_mks, v_copy, v_isnil, v_nilck, v_pick, ev, evs_nil, evs_cons, fr_get_cons, fr_put_nil, fr_put_cons, fr_put_some, fr_put_none, fr_keep_nil, fr_keep_cons, fr_has_nil, fr_has_cons, Option.bind_some, Option.map_some, xbin, ibin, xresult_eq, xress_nil, xress_tmp, resV, ex_some, if_true, if_false, ite_true, ite_false, reduceIte, reduceCtorEq, Nat.reduceEqDiff, Nat.reduceLT, Nat.reduceLeDiff, Int.reduceLT, Int.reduceLE, Nat.zero_add, Nat.reduceAdd, Bool.false_eq_true, decide_eq_true_eq, decide_eq_false_iff_not, true_implies, false_implies, and_true, true_and, hf, decide_false]
    exact hq
  | succ r ih =>
    intro k i N Q hk hi hN hq
    have ih' := ih (k + 1) (i + 1) N Q (by omega) (by omega) hN hq
    rw [run_loop]
    generalize hL : XCode.loop ximage_Check_l0 = LL
    rw [hL] at ih'
    have hlt : i < N := by omega
    obtain ⟨x, e1, e2, e3⟩ := hs.at i k hi (by omega)
    have e5 := byts_len' e3
    rw [hl _ (List.getElem_mem (by omega))] at e5
    have c1 : (((128 : Nat) : Int) != 128) = false := rfl
    have e4 := wrI (i + 1) (by omega) (by omega)
    simp only [ximage_Check_l0, ofArgs, run_seq, run_block, run_ops, run_skip, run_exit, run_ret, thenQ_normal, thenQ_exit, thenQ_ret, blockQ_normal, blockQ_exit, blockQ_ret, retQ_ret, retQ_normal, ops_nil, ops_none, got_some, ops_wT, ops_wTn, ops_wF, ops_wFn, ops_wU, dops_wT, dops_wTn, dops_wF, dops_wFn, dops_wU, run_condT, run_condF, alt2_int, altB_bool, altI_int, altBB_bool, v_min, v_max, v_not, v_neg, optEv_none, optEv_some, isSome'_none, isSome'_some, pExt0, pExt1, pExt2, Bool.false_and, Bool.true_and, Bool.not_true, Bool.not_false, cond_true, cond_false, dops_nil, dops_none, xval_call, v_mov, v_bin, v_len, v_ext, v_idxA, v_ld, v_st, v_app, v_appN, v_cvs, v_bs1, pBs1, v_slc, v_conv, v_fld, v_fldA, v_new, v_box, v_mks, v_copy, v_isnil, v_nilck, v_pick, ev, evs_nil, evs_cons, fr_get_cons, fr_put_nil, fr_put_cons, fr_put_some, fr_put_none, fr_keep_nil, fr_keep_cons, fr_has_nil, fr_has_cons, Option.bind_some, Option.map_some, xbin, ibin, xresult_eq, xress_nil, xress_tmp, resV, ex_some, if_true, if_false, ite_true, ite_false, reduceIte, reduceCtorEq, Nat.reduceEqDiff, Nat.reduceLT, Nat.reduceLeDiff, Int.reduceLT, Int.reduceLE, Nat.zero_add, Nat.reduceAdd, Bool.false_eq_true, decide_eq_true_eq, decide_eq_false_iff_not, true_implies, false_implies, and_true, true_and, hlt, decide_true, e1, e2, e5, c1, e4]
    exact ih'

theorem imcheck_ok (T S : Int) (v : Value) (H : AH) (L : List (List Int)) (Q : Value → AH → Prop) (hs : Secs H v L) (hl : ∀ l ∈ L, l.length = 128) (hT : 1 ≤ T) (hT2 : T ≤ 20) (hS : 1 ≤ S) (hS2 : S ≤ 12) (hLL : (L.length : Int) = T * S)
    (hq : ∀ H', HExt H H' → Q (.int .i64 0) H') : Got (xc Try.prog tab 31 [.agg #[.int .i64 T, .int .i64 S, v]] H) Q := by
  refine got_call (res := [.tmp 2]) rfl ?_
  have hb : 0 ≤ T * S ∧ T * S ≤ 240 := by
    have h1 : T * S ≤ 20 * S := Int.mul_le_mul_of_nonneg_right hT2 (by omega)
    have h2 : 1 * S ≤ T * S := Int.mul_le_mul_of_nonneg_right hT (by omega)
    omega
  have ev3 : vcells (.agg #[.int .i64 T, .int .i64 S, v]) = [.int .i64 T, .int .i64 S, v] := rfl
  have hg : (H.push ⟨[.int .i64 T, .int .i64 S, v], 1, false, false⟩).get H.n = some ⟨[.int .i64 T, .int .i64 S, v], 1, false, false⟩ := by rw [AH.get_push, if_pos rfl]
  have hx := hext_push H ⟨[.int .i64 T, .int .i64 S, v], 1, false, false⟩
  have hs' := hs.ext hx
  have e0 := ld3_0 hg
  have e1 := ld3_1 hg
  have e2 := ld3_2 hg
  have e3 := hs'.len
  have w1 := wrI (T * S) (by omega) (by omega)
  have c1 : ¬ T < 1 := by omega
  have c2 : ¬ T > 20 := by omega
  have c3 : ¬ S < 1 := by omega
  have c4 : ¬ S > 12 := by omega
  rw [hLL] at e3
  simp only [ofArgs, run_seq, run_block, run_ops, run_skip, run_exit, run_ret, thenQ_normal, thenQ_exit, thenQ_ret, blockQ_normal, blockQ_exit, blockQ_ret, retQ_ret, retQ_normal, ops_nil, ops_none, got_some, ops_wT, ops_wTn, ops_wF, ops_wFn, ops_wU, dops_wT, dops_wTn, dops_wF, dops_wFn, dops_wU, run_condT, run_condF, alt2_int, altB_bool, altI_int, altBB_bool, v_min, v_max, v_not, v_neg, optEv_none, optEv_some, isSome'_none, isSome'_some, pExt0, pExt1, pExt2, Bool.false_and, Bool.true_and, Bool.not_true, Bool.not_false, cond_true, cond_false, dops_nil, dops_none, xval_call, v_mov, v_bin, v_len, v_ext, v_idxA, v_ld, v_st, v_app, v_appN, v_cvs, v_bs1, pBs1, v_slc, v_conv, v_fld, v_fldA, v_new, v_box, v_mks, v_copy, v_isnil, v_nilck, v_pick, ev, evs_nil, evs_cons, fr_get_cons, fr_put_nil, fr_put_cons, fr_put_some, fr_put_none, fr_keep_nil, fr_keep_cons, fr_has_nil, fr_has_cons, Option.bind_some, Option.map_some, xbin, ibin, xresult_eq, xress_nil, xress_tmp, resV, ex_some, if_true, if_false, ite_true, ite_false, reduceIte, reduceCtorEq, Nat.reduceEqDiff, Nat.reduceLT, Nat.reduceLeDiff, Int.reduceLT, Int.reduceLE, Nat.zero_add, Nat.reduceAdd, Bool.false_eq_true, decide_eq_true_eq, decide_eq_false_iff_not, true_implies, false_implies, and_true, true_and, ev3, pFldA_ptr, e0, e1, e2, e3, w1, c1, c2, c3, c4, decide_false, bne_self_eq_false]
  refine imcheck_l0 v _ L hs' hl (by omega) L.length 0 0 _ _ (by omega) rfl hLL.symm ?_
  simp only [ofArgs, run_seq, run_block, run_ops, run_skip, run_exit, run_ret, thenQ_normal, thenQ_exit, thenQ_ret, blockQ_normal, blockQ_exit, blockQ_ret, retQ_ret, retQ_normal, ops_nil, ops_none, got_some, ops_wT, ops_wTn, ops_wF, ops_wFn, ops_wU, dops_wT, dops_wTn, dops_wF, dops_wFn, dops_wU, run_condT, run_condF, alt2_int, altB_bool, altI_int, altBB_bool, v_min, v_max, v_not, v_neg, optEv_none, optEv_some, isSome'_none, isSome'_some, pExt0, pExt1, pExt2, Bool.false_and, Bool.true_and, Bool.not_true, Bool.not_false, cond_true, cond_false, dops_nil, dops_none, xval_call, v_mov, v_bin, v_len, v_ext, v_idxA, v_ld, v_st, v_app, v_appN, v_cvs, v_bs1, pBs1, v_slc, v_conv, v_fld, v_fldA, v_new, v_box, v_mks, v_copy, v_isnil, v_nilck, v_pick, ev, evs_nil, evs_cons, fr_get_cons, fr_put_nil, fr_put_cons, fr_put_some, fr_put_none, fr_keep_nil, fr_keep_cons, fr_has_nil, fr_has_cons, Option.bind_some, Option.map_some, xbin, ibin, xresult_eq, xress_nil, xress_tmp, resV, ex_some, if_true, if_false, ite_true, ite_false, reduceIte, reduceCtorEq, Nat.reduceEqDiff, Nat.reduceLT, Nat.reduceLeDiff, Int.reduceLT, Int.reduceLE, Nat.zero_add, Nat.reduceAdd, Bool.false_eq_true, decide_eq_true_eq, decide_eq_false_iff_not, true_implies, false_implies, and_true, true_and]
  exact hq _ hx
theorem imcheck_empty (H : AH) (Q : Value → AH → Prop) (hq : ∀ H', HExt H H' → Q (.int .i64 1) H') : Got (xc Try.prog tab 31 [.agg #[.int .i64 0, .int .i64 0, .slice none 0 0]] H) Q := by
  refine got_call (res := [.tmp 2]) rfl ?_
  have ev3 : vcells (.agg #[.int .i64 0, .int .i64 0, .slice none 0 0]) = [.int .i64 0, .int .i64 0, .slice none 0 0] := rfl
  have hg : (H.push ⟨[.int .i64 0, .int .i64 0, .slice none 0 0], 1, false, false⟩).get H.n = some ⟨[.int .i64 0, .int .i64 0, .slice none 0 0], 1, false, false⟩ := by rw [AH.get_push, if_pos rfl]
  have e0 := ld3_0 hg
  simp only [ofArgs, run_seq, run_block, run_ops, run_skip, run_exit, run_ret, thenQ_normal, thenQ_exit, thenQ_ret, blockQ_normal, blockQ_exit, blockQ_ret, retQ_ret, retQ_normal, ops_nil, ops_none, got_some, ops_wT, ops_wTn, ops_wF, ops_wFn, ops_wU, dops_wT, dops_wTn, dops_wF, dops_wFn, dops_wU, run_condT, run_condF, alt2_int, altB_bool, altI_int, altBB_bool, v_min, v_max, v_not, v_neg, optEv_none, optEv_some, isSome'_none, isSome'_some, pExt0, pExt1, pExt2, Bool.false_and, Bool.true_and, Bool.not_true, Bool.not_false, cond_true, cond_false, dops_nil, dops_none, xval_call, v_mov, v_bin, v_len, v_ext, v_idxA, v_ld, v_st, v_app, v_appN, v_cvs, v_bs1, pBs1, v_slc, v_conv, v_fld, v_fldA, v_new, v_box, v_mks, v_copy, v_isnil, v_nilck, v_pick, ev, evs_nil, evs_cons, fr_get_cons, fr_put_nil, fr_put_cons, fr_put_some, fr_put_none, fr_keep_nil, fr_keep_cons, fr_has_nil, fr_has_cons, Option.bind_some, Option.map_some, xbin, ibin, xresult_eq, xress_nil, xress_tmp, resV, ex_some, if_true, if_false, ite_true, ite_false, reduceIte, reduceCtorEq, Nat.reduceEqDiff, Nat.reduceLT, Nat.reduceLeDiff, Int.reduceLT, Int.reduceLE, Nat.zero_add, Nat.reduceAdd, Bool.false_eq_true, decide_eq_true_eq, decide_eq_false_iff_not, true_implies, false_implies, and_true, true_and, ev3, pFldA_ptr, e0, decide_true]
  exact hq _ (hext_push H _)
end Go.Proofs.Ytkhjmmidaihbhaa.D
