/- What functions that the law reaches compute, on a heap of the run's own: the conditions stand in each theorem. -/
import Derived.Test.YtkhjmmidaihbhaaWkA
set_option linter.unusedSimpArgs false
set_option linter.unusedVariables false
namespace Go.Proofs.Ytkhjmmidaihbhaa.D
open Go Go.Det

/-! ### slices of three ints each -/
theorem sl_ldn {H : AH} {sz n k : Nat} {s : Value} {cs : List Value} (h : Sl H sz s n cs) (hk : k < n) : pLd (some sz) (ptrAt s (k * sz)) H = some (.agg ((cs.drop (k * sz)).take sz).toArray, H) := by
  obtain ⟨B, o, c, blk, rfl, h1, h2, h3, h4, h5, h6⟩ := h.live (by omega)
  show ((H.get B).bind fun blk => (partV blk.cells (o + k * sz) (some sz)).map fun v => (v, H)) = _
  rw [h2]
  have m1 : (k + 1) * sz ≤ n * sz := Nat.mul_le_mul_right sz hk
  have m2 : n * sz ≤ c * sz := Nat.mul_le_mul_right sz h4
  rw [Nat.add_mul, Nat.one_mul] at m1
  have hle : Nat.ble (o + k * sz + sz) blk.cells.length = true := by rw [Nat.ble_eq]; omega
  have e : (blk.cells.drop (o + k * sz)).take sz = (cs.drop (k * sz)).take sz := by
    rw [← h6, List.drop_take, List.take_take, List.drop_drop, Nat.min_eq_left (by omega)]
  simp only [Option.bind_some, partV, hle, cond_true, e, Option.map_some]
abbrev Spn := Nat × Nat × Nat
def spc : List Spn → List Value
  | [] => []
  | s :: r => .int .i64 (s.1 : Int) :: .int .i64 (s.2.1 : Int) :: .int .i64 (s.2.2 : Int) :: spc r
theorem spc_app (l r : List Spn) : spc (l ++ r) = spc l ++ spc r := by
  induction l with
  | nil => rfl
  | cons s l ih => simp [spc, ih]
theorem spc_len (l : List Spn) : (spc l).length = l.length * 3 := by
  induction l with
  | nil => rfl
  | cons s l ih => simp [spc, ih]; omega
def Spns (H : AH) (v : Value) (l : List Spn) : Prop := Sl H 3 v l.length (spc l)
def S3 (s : Spn) : Value := .agg #[.int .i64 (s.1 : Int), .int .i64 (s.2.1 : Int), .int .i64 (s.2.2 : Int)]
theorem spns_ld {H : AH} {v : Value} {pre rest : List Spn} {s : Spn} (h : Spns H v (pre ++ s :: rest)) : pLd (some 3) (ptrAt v (pre.length * 3)) H = some (S3 s, H) := by
  rw [sl_ldn h (by simp), spc_app, List.drop_left' (spc_len pre)]
  rfl
theorem spns_idx {H : AH} {v : Value} {pre rest : List Spn} {s : Spn} (h : Spns H v (pre ++ s :: rest)) (kd : IntKind) (i : Int) (hi : i = (pre.length : Int)) : pIdx 3 v (.int kd i) H = some (ptrAt v (pre.length * 3), H) := pIdx_ok h kd i pre.length hi (by simp)
/-- a span in a box of its own -/
def b3 (H : AH) (s : Spn) : AH := (H.push ⟨[.int .i64 0, .int .i64 0, .int .i64 0], 1, false, false⟩).set H.n ⟨[.int .i64 (s.1 : Int), .int .i64 (s.2.1 : Int), .int .i64 (s.2.2 : Int)], 1, false, false⟩
theorem b3_ext (H : AH) (s : Spn) : HExt H (b3 H s) := ⟨by show _ ≤ H.n + 1; omega, fun b hb => by unfold b3; rw [AH.get_set, if_neg (by omega), AH.get_push, if_neg (by omega)]⟩
theorem b3_n (H : AH) (s : Spn) : (b3 H s).n = H.n + 1 := rfl
theorem b3_get (H : AH) (s : Spn) : (b3 H s).get H.n = some ⟨[.int .i64 (s.1 : Int), .int .i64 (s.2.1 : Int), .int .i64 (s.2.2 : Int)], 1, false, false⟩ := by unfold b3; rw [AH.get_set, if_pos rfl]
theorem b3_st (H : AH) (s : Spn) : pSt 3 (.pointer (some ⟨H.n, 0, none⟩)) (S3 s) (H.push ⟨[.int .i64 0, .int .i64 0, .int .i64 0], 1, false, false⟩) = some (undef, b3 H s) :=
  st3 (by rw [AH.get_push, if_pos rfl]) rfl rfl rfl
theorem fld3_0 (B : Nat) (H : AH) : pFldA 0 (.pointer (some ⟨B, 0, none⟩)) H = some (.pointer (some ⟨B, 0, none⟩), H) := rfl
theorem fld3_1 (B : Nat) (H : AH) : pFldA 1 (.pointer (some ⟨B, 0, none⟩)) H = some (.pointer (some ⟨B, 1, none⟩), H) := rfl
theorem fld3_2 (B : Nat) (H : AH) : pFldA 2 (.pointer (some ⟨B, 0, none⟩)) H = some (.pointer (some ⟨B, 2, none⟩), H) := rfl

def SpOk (n : Nat) (l : List Spn) : Prop := ∀ s ∈ l, s.1 ≤ s.2.1 ∧ s.2.1 ≤ n ∧ s.2.2 ≤ 100
set_option maxHeartbeats 1000000 in
theorem wread_l1 (n0 : Nat) (sv vm : Value) (rest : List Spn) : ∀ (pre : List Spn) (x : Nat) (m : List Int) (c : Int) (H : AH) (i N : Int) (Q : XExit → Fr → AH → Prop), Spns H sv (pre ++ rest) → (∀ b, inB sv b → b < n0) → OwnI n0 H vm m → n0 ≤ H.n →
    SpOk m.length rest → m.length ≤ 100000 → pre.length + rest.length ≤ 100 → 0 ≤ c → c + 10000200000 * (rest.length : Int) ≤ 1000000000000000 → Bd c m → i = (pre.length : Int) → N = ((pre ++ rest).length : Int) →
    (∀ H', OwnI n0 H' vm (wread rest x m).2 → Keep n0 H H' → Q (.exit 0) [(7, vm), (9, .int .u64 ((wread rest x m).1 : Int)), (30, sv), (31, .int .i64 N), (32, .int .i64 N), (33, .bool false)] H') →
    Run Try.prog tab (.loop xweak_Read_l1) [(7, vm), (9, .int .u64 (x : Int)), (30, sv), (31, .int .i64 N), (32, .int .i64 i)] H Q := by
  induction rest with
  | nil =>
    intro pre x m c H i N Q hs hsb ho hH hok hm hl hc hcb hbd hi hN hq
    rw [run_loop]
    generalize hL : XCode.loop xweak_Read_l1 = L
    have hiN : i = N := by simp at hN; omega
    subst hiN
    have hf : ¬ i < i := by omega
    simp only [xweak_Read_l1, ofArgs, run_seq, run_block, run_ops, run_skip, run_exit, run_ret, thenQ_normal, thenQ_exit, thenQ_ret, blockQ_normal, blockQ_exit, blockQ_ret, retQ_ret, retQ_normal, ops_nil, ops_none, got_some, ops_wT, ops_wTn, ops_wF, ops_wFn, ops_wU, dops_wT, dops_wTn, dops_wF, dops_wFn, dops_wU, run_condT, run_condF, alt2_int, altB_bool, altI_int, altBB_bool, v_min, v_max, v_not, v_neg, optEv_none, optEv_some, isSome'_none, isSome'_some, pExt0, pExt1, pExt2, Bool.false_and, Bool.true_and, Bool.not_true, Bool.not_false, cond_true, cond_false, dops_nil, dops_none, xval_call, v_mov, v_bin, v_len, v_ext, v_idxA, v_ld, v_st, v_app, v_appN, v_cvs, v_bs1, pBs1, v_slc, v_conv, v_fld, v_fldA, v_new, v_box, v_mks, v_copy, v_isnil, v_nilck, v_pick, ev, evs_nil, evs_cons, fr_get_cons, fr_put_nil, fr_put_cons, fr_put_some, fr_put_none, fr_keep_nil, fr_keep_cons, fr_has_nil, fr_has_cons, Option.bind_some, Option.map_some, xbin, ibin, xresult_eq, xress_nil, xress_tmp, resV, ex_some, if_true, if_false, ite_true, ite_false, reduceIte, reduceCtorEq, Nat.reduceEqDiff, Nat.reduceLT, Nat.reduceLeDiff, Int.reduceLT, Int.reduceLE, Nat.zero_add, Nat.reduceAdd, Bool.false_eq_true, decide_eq_true_eq, decide_eq_false_iff_not, true_implies, false_implies, and_true, true_and, hf, decide_false]
    exact hq H ho (.refl _ _)
  | cons s rest ih =>
    intro pre x m c H i N Q hs hsb ho hH hok hm hl hc hcb hbd hi hN hq
    rw [run_loop]
    generalize hL : XCode.loop xweak_Read_l1 = L
    simp only [List.length_cons] at hl
    have hcb' : c + 10000200000 * (rest.length : Int) + 10000200000 ≤ 1000000000000000 := by simp only [List.length_cons] at hcb; omega
    have hlt : i < N := by simp at hN; omega
    have e1 := spns_idx hs .i64 i hi
    have e2 := spns_ld hs
    have st := b3_st H s
    obtain ⟨s1, s2, s3⟩ := hok s (by simp)
    have l0 := ld3_0 (b3_get H s)
    have hx := b3_ext H s
    have hn := b3_n H s
    have hB := b3_get H s
    have ho1 : OwnI n0 (b3 H s) vm m := Own.ext hx ho
    have hvB : ¬ inB vm H.n := fun h => by have := ho.1.lt h; omega
    have e4 := wrI (i + 1) (by omega) (by omega)
    simp only [xweak_Read_l1, ofArgs, run_seq, run_block, run_ops, run_skip, run_exit, run_ret, thenQ_normal, thenQ_exit, thenQ_ret, blockQ_normal, blockQ_exit, blockQ_ret, retQ_ret, retQ_normal, ops_nil, ops_none, got_some, ops_wT, ops_wTn, ops_wF, ops_wFn, ops_wU, dops_wT, dops_wTn, dops_wF, dops_wFn, dops_wU, run_condT, run_condF, alt2_int, altB_bool, altI_int, altBB_bool, v_min, v_max, v_not, v_neg, optEv_none, optEv_some, isSome'_none, isSome'_some, pExt0, pExt1, pExt2, Bool.false_and, Bool.true_and, Bool.not_true, Bool.not_false, cond_true, cond_false, dops_nil, dops_none, xval_call, v_mov, v_bin, v_len, v_ext, v_idxA, v_ld, v_st, v_app, v_appN, v_cvs, v_bs1, pBs1, v_slc, v_conv, v_fld, v_fldA, v_new, v_box, v_mks, v_copy, v_isnil, v_nilck, v_pick, ev, evs_nil, evs_cons, fr_get_cons, fr_put_nil, fr_put_cons, fr_put_some, fr_put_none, fr_keep_nil, fr_keep_cons, fr_has_nil, fr_has_cons, Option.bind_some, Option.map_some, xbin, ibin, xresult_eq, xress_nil, xress_tmp, resV, ex_some, if_true, if_false, ite_true, ite_false, reduceIte, reduceCtorEq, Nat.reduceEqDiff, Nat.reduceLT, Nat.reduceLeDiff, Int.reduceLT, Int.reduceLE, Nat.zero_add, Nat.reduceAdd, Bool.false_eq_true, decide_eq_true_eq, decide_eq_false_iff_not, true_implies, false_implies, and_true, true_and, hlt, decide_true, e1, e2, st, pFldA_ptr, l0]
    refine wspan_l0 n0 H.n s.1 s.2.1 s.2.2 s3 vm sv N i (s.2.1 - s.1) s.1 x m c (b3 H s) _ (by omega) s2 hm hc (by omega) hbd hB (by omega) hvB ho1 (by omega) ?_
    intro H' ho' hn' hk'
    simp only [ofArgs, run_seq, run_block, run_ops, run_skip, run_exit, run_ret, thenQ_normal, thenQ_exit, thenQ_ret, blockQ_normal, blockQ_exit, blockQ_ret, retQ_ret, retQ_normal, ops_nil, ops_none, got_some, ops_wT, ops_wTn, ops_wF, ops_wFn, ops_wU, dops_wT, dops_wTn, dops_wF, dops_wFn, dops_wU, run_condT, run_condF, alt2_int, altB_bool, altI_int, altBB_bool, v_min, v_max, v_not, v_neg, optEv_none, optEv_some, isSome'_none, isSome'_some, pExt0, pExt1, pExt2, Bool.false_and, Bool.true_and, Bool.not_true, Bool.not_false, cond_true, cond_false, dops_nil, dops_none, xval_call, v_mov, v_bin, v_len, v_ext, v_idxA, v_ld, v_st, v_app, v_appN, v_cvs, v_bs1, pBs1, v_slc, v_conv, v_fld, v_fldA, v_new, v_box, v_mks, v_copy, v_isnil, v_nilck, v_pick, ev, evs_nil, evs_cons, fr_get_cons, fr_put_nil, fr_put_cons, fr_put_some, fr_put_none, fr_keep_nil, fr_keep_cons, fr_has_nil, fr_has_cons, Option.bind_some, Option.map_some, xbin, ibin, xresult_eq, xress_nil, xress_tmp, resV, ex_some, if_true, if_false, ite_true, ite_false, reduceIte, reduceCtorEq, Nat.reduceEqDiff, Nat.reduceLT, Nat.reduceLeDiff, Int.reduceLT, Int.reduceLE, Nat.zero_add, Nat.reduceAdd, Bool.false_eq_true, decide_eq_true_eq, decide_eq_false_iff_not, true_implies, false_implies, and_true, true_and, e4]
    subst hL
    have hsv : Spns H' sv ((pre ++ [s]) ++ rest) := by
      rw [← List.append_cons]
      exact Sl.same hs (by omega) (fun b hb => by
        have h1 := hsb b hb
        have h2 : b < H.n := by omega
        have h3 : ¬ inB vm b := fun hv => by obtain ⟨o, l, cc, e⟩ := hv; have := (ho.2 b o l cc e).1; omega
        exact (hk' b (by omega) h3).trans (hx.2 b h2))
    have hwl := wspan_len s.2.2 (s.2.1 - s.1) s.1 x m
    have hb2 := wspan_bd s.2.2 s3 (s.2.1 - s.1) s.1 x m c hc (by omega) hbd
    refine ih (pre ++ [s]) _ _ (c + 10000200000) H' (i + 1) N Q hsv hsb ho' (by omega) (by rw [hwl]; exact fun y hy => hok y (by simp [hy])) (by omega) (by simp; omega) (by omega) (by omega) (fun j => by have := hb2 j; omega) (by simp; omega) (by simpa using hN) ?_
    intro H2 ho2 hk2
    refine hq H2 ho2 ⟨by have := hk2.1; omega, fun b hb => ?_⟩
    have h3 : ¬ inB vm b := fun hv => by obtain ⟨o, l, cc, e⟩ := hv; have := (ho.2 b o l cc e).1; omega
    exact (hk2.2 b hb).trans ((hk' b (by omega) h3).trans (hx.2 b (by omega)))

/-! ### the check -/
def SpAsc : Nat → List Spn → Prop
  | _, [] => True
  | a, s :: r => a ≤ s.1 ∧ SpAsc s.2.1 r
set_option maxHeartbeats 1000000 in
theorem wcheck_l0 (t : List Int) (sv tv : Value) (B1 : Nat) (rest : List Spn) : ∀ (pre : List Spn) (a : Nat) (H : AH) (i N : Int) (Q : XExit → Fr → AH → Prop), Spns H sv (pre ++ rest) → Ints H tv t → H.get B1 = some ⟨[tv, sv], 1, false, false⟩ → B1 < H.n →
    SpOk t.length rest → SpAsc a rest → pre.length + rest.length ≤ 100 → i = (pre.length : Int) → N = ((pre ++ rest).length : Int) →
    (∀ a' H', HExt H H' → Q (.exit 0) [(1, .pointer (some ⟨B1, 0, none⟩)), (4, .int .i64 a'), (18, sv), (19, .int .i64 N), (20, .int .i64 N), (21, .bool false)] H') →
    Run Try.prog tab (.loop xweak_Check_l0) [(1, .pointer (some ⟨B1, 0, none⟩)), (4, .int .i64 (a : Int)), (18, sv), (19, .int .i64 N), (20, .int .i64 i)] H Q := by
  induction rest with
  | nil =>
    intro pre a H i N Q hs ht hB hBn hok ha hl hi hN hq
    rw [run_loop]
    generalize hL : XCode.loop xweak_Check_l0 = L
    have hiN : i = N := by simp at hN; omega
    subst hiN
    have hf : ¬ i < i := by omega
    simp only [xweak_Check_l0, ofArgs, run_seq, run_block, run_ops, run_skip, run_exit, run_ret, thenQ_normal, thenQ_exit, thenQ_ret, blockQ_normal, blockQ_exit, blockQ_ret, retQ_ret, retQ_normal, ops_nil, ops_none, got_some, ops_wT, ops_wTn, ops_wF, ops_wFn, ops_wU, dops_wT, dops_wTn, dops_wF, dops_wFn, dops_wU, run_condT, run_condF, alt2_int, altB_bool, altI_int, altBB_bool, v_min, v_max, v_not, v_neg, optEv_none, optEv_some, isSome'_none, isSome'_some, pExt0, pExt1, pExt2, Bool.false_and, Bool.true_and, Bool.not_true, Bool.not_false, cond_true, cond_false, dops_nil, dops_none, xval_call, v_mov, v_bin, v_len, v_ext, v_idxA, v_ld, v_st, v_app, v_appN, v_cvs, v_bs1, pBs1, v_slc, v_conv, v_fld, v_fldA, v_new, v_box, v_mks, v_copy, v_isnil, v_nilck, v_pick, ev, evs_nil, evs_cons, fr_get_cons, fr_put_nil, fr_put_cons, fr_put_some, fr_put_none, fr_keep_nil, fr_keep_cons, fr_has_nil, fr_has_cons, Option.bind_some, Option.map_some, xbin, ibin, xresult_eq, xress_nil, xress_tmp, resV, ex_some, if_true, if_false, ite_true, ite_false, reduceIte, reduceCtorEq, Nat.reduceEqDiff, Nat.reduceLT, Nat.reduceLeDiff, Int.reduceLT, Int.reduceLE, Nat.zero_add, Nat.reduceAdd, Bool.false_eq_true, decide_eq_true_eq, decide_eq_false_iff_not, true_implies, false_implies, and_true, true_and, hf, decide_false]
    exact hq _ H (HExt.refl H)
  | cons s rest ih =>
    intro pre a H i N Q hs ht hB hBn hok ha hl hi hN hq
    rw [run_loop]
    generalize hL : XCode.loop xweak_Check_l0 = L
    simp only [List.length_cons] at hl
    have hlt : i < N := by simp at hN; omega
    have e1 := spns_idx hs .i64 i hi
    have e2 := spns_ld hs
    have st := b3_st H s
    obtain ⟨s1, s2, s3⟩ := hok s (by simp)
    obtain ⟨a1, a2⟩ := ha
    have hx := b3_ext H s
    have hn := b3_n H s
    have l0 := ld3_0 (b3_get H s)
    have l1 := ld3_1 (b3_get H s)
    have l2 := ld3_2 (b3_get H s)
    have hB' := (hx.2 B1 hBn).trans hB
    have l3 : pLd none (.pointer (some ⟨B1, 0, none⟩)) (b3 H s) = some (tv, b3 H s) := by unfold pLd; simp only [hB']; rfl
    have ht' : Ints (b3 H s) tv t := Sl.ext hx ht
    have l4 := ints_len ht'
    have c1 : ¬ (s.1 : Int) < (a : Int) := by omega
    have c2 : ¬ (s.1 : Int) > (s.2.1 : Int) := by omega
    have c3 : ¬ (s.2.1 : Int) > (t.length : Int) := by omega
    have c4 : ¬ (s.2.2 : Int) < 0 := by omega
    have c5 : ¬ (s.2.2 : Int) > 100000 := by omega
    have e4 := wrI (i + 1) (by omega) (by omega)
    simp only [xweak_Check_l0, ofArgs, run_seq, run_block, run_ops, run_skip, run_exit, run_ret, thenQ_normal, thenQ_exit, thenQ_ret, blockQ_normal, blockQ_exit, blockQ_ret, retQ_ret, retQ_normal, ops_nil, ops_none, got_some, ops_wT, ops_wTn, ops_wF, ops_wFn, ops_wU, dops_wT, dops_wTn, dops_wF, dops_wFn, dops_wU, run_condT, run_condF, alt2_int, altB_bool, altI_int, altBB_bool, v_min, v_max, v_not, v_neg, optEv_none, optEv_some, isSome'_none, isSome'_some, pExt0, pExt1, pExt2, Bool.false_and, Bool.true_and, Bool.not_true, Bool.not_false, cond_true, cond_false, dops_nil, dops_none, xval_call, v_mov, v_bin, v_len, v_ext, v_idxA, v_ld, v_st, v_app, v_appN, v_cvs, v_bs1, pBs1, v_slc, v_conv, v_fld, v_fldA, v_new, v_box, v_mks, v_copy, v_isnil, v_nilck, v_pick, ev, evs_nil, evs_cons, fr_get_cons, fr_put_nil, fr_put_cons, fr_put_some, fr_put_none, fr_keep_nil, fr_keep_cons, fr_has_nil, fr_has_cons, Option.bind_some, Option.map_some, xbin, ibin, xresult_eq, xress_nil, xress_tmp, resV, ex_some, if_true, if_false, ite_true, ite_false, reduceIte, reduceCtorEq, Nat.reduceEqDiff, Nat.reduceLT, Nat.reduceLeDiff, Int.reduceLT, Int.reduceLE, Nat.zero_add, Nat.reduceAdd, Bool.false_eq_true, decide_eq_true_eq, decide_eq_false_iff_not, true_implies, false_implies, and_true, true_and, hlt, decide_true, e1, e2, st, fld3_0, fld3_1, fld3_2, l0, l1, l2, l3, l4, c1, c2, c3, c4, c5, decide_false, e4]
    subst hL
    have hsv : Spns (b3 H s) sv ((pre ++ [s]) ++ rest) := by rw [← List.append_cons]; exact Sl.ext hx hs
    refine ih (pre ++ [s]) s.2.1 (b3 H s) (i + 1) N Q hsv ht' hB' (by omega) (fun y hy => hok y (by simp [hy])) a2 (by simp; omega) (by simp; omega) (by simpa using hN) ?_
    intro a' H2 hk2
    exact hq a' H2 (hx.trans hk2)
theorem wcheck_ok (t : List Int) (l : List Spn) (sv tv : Value) (H : AH) (Q : Value → AH → Prop) (ht : Ints H tv t) (hs : Spns H sv l) (htl : t.length ≤ 1000) (hto : Ok t) (hok : SpOk t.length l) (ha : SpAsc 0 l) (hl : l.length ≤ 30)
    (hq : ∀ H', HExt H H' → Q (.int .i64 0) H') : Got (xc Try.prog tab 43 [.agg #[tv, sv]] H) Q := by
  refine got_call (res := [.tmp 2]) rfl ?_
  have hx := hext_push H ⟨[tv, sv], 1, false, false⟩
  have vc : vcells (.agg #[tv, sv]) = [tv, sv] := rfl
  have hB : (H.push ⟨[tv, sv], 1, false, false⟩).get H.n = some ⟨[tv, sv], 1, false, false⟩ := by rw [AH.get_push, if_pos rfl]
  have hn : (H.push ⟨[tv, sv], 1, false, false⟩).n = H.n + 1 := rfl
  simp only [ofArgs, run_seq, run_block, run_ops, run_skip, run_exit, run_ret, thenQ_normal, thenQ_exit, thenQ_ret, blockQ_normal, blockQ_exit, blockQ_ret, retQ_ret, retQ_normal, ops_nil, ops_none, got_some, ops_wT, ops_wTn, ops_wF, ops_wFn, ops_wU, dops_wT, dops_wTn, dops_wF, dops_wFn, dops_wU, run_condT, run_condF, alt2_int, altB_bool, altI_int, altBB_bool, v_min, v_max, v_not, v_neg, optEv_none, optEv_some, isSome'_none, isSome'_some, pExt0, pExt1, pExt2, Bool.false_and, Bool.true_and, Bool.not_true, Bool.not_false, cond_true, cond_false, dops_nil, dops_none, xval_call, v_mov, v_bin, v_len, v_ext, v_idxA, v_ld, v_st, v_app, v_appN, v_cvs, v_bs1, pBs1, v_slc, v_conv, v_fld, v_fldA, v_new, v_box, v_mks, v_copy, v_isnil, v_nilck, v_pick, ev, evs_nil, evs_cons, fr_get_cons, fr_put_nil, fr_put_cons, fr_put_some, fr_put_none, fr_keep_nil, fr_keep_cons, fr_has_nil, fr_has_cons, Option.bind_some, Option.map_some, xbin, ibin, xresult_eq, xress_nil, xress_tmp, resV, ex_some, if_true, if_false, ite_true, ite_false, reduceIte, reduceCtorEq, Nat.reduceEqDiff, Nat.reduceLT, Nat.reduceLeDiff, Int.reduceLT, Int.reduceLE, Nat.zero_add, Nat.reduceAdd, Bool.false_eq_true, decide_eq_true_eq, decide_eq_false_iff_not, true_implies, false_implies, and_true, true_and, vc]
  generalize H.push ⟨[tv, sv], 1, false, false⟩ = H0 at hx hB hn
  have ht' : Ints H0 tv t := Sl.ext hx ht
  have hs' : Spns H0 sv l := Sl.ext hx hs
  have l0 : pLd none (.pointer (some ⟨H.n, 0, none⟩)) H0 = some (tv, H0) := by unfold pLd; simp only [hB]; rfl
  have l1 : pLd none (.pointer (some ⟨H.n, 1, none⟩)) H0 = some (sv, H0) := by unfold pLd; simp only [hB]; rfl
  have e5 := check_xc t tv H0 ht' (by omega) hto
  have e6 := pLen_ok hs'
  have c1 : ¬ (l.length : Int) > 32 := by omega
  simp only [ofArgs, run_seq, run_block, run_ops, run_skip, run_exit, run_ret, thenQ_normal, thenQ_exit, thenQ_ret, blockQ_normal, blockQ_exit, blockQ_ret, retQ_ret, retQ_normal, ops_nil, ops_none, got_some, ops_wT, ops_wTn, ops_wF, ops_wFn, ops_wU, dops_wT, dops_wTn, dops_wF, dops_wFn, dops_wU, run_condT, run_condF, alt2_int, altB_bool, altI_int, altBB_bool, v_min, v_max, v_not, v_neg, optEv_none, optEv_some, isSome'_none, isSome'_some, pExt0, pExt1, pExt2, Bool.false_and, Bool.true_and, Bool.not_true, Bool.not_false, cond_true, cond_false, dops_nil, dops_none, xval_call, v_mov, v_bin, v_len, v_ext, v_idxA, v_ld, v_st, v_app, v_appN, v_cvs, v_bs1, pBs1, v_slc, v_conv, v_fld, v_fldA, v_new, v_box, v_mks, v_copy, v_isnil, v_nilck, v_pick, ev, evs_nil, evs_cons, fr_get_cons, fr_put_nil, fr_put_cons, fr_put_some, fr_put_none, fr_keep_nil, fr_keep_cons, fr_has_nil, fr_has_cons, Option.bind_some, Option.map_some, xbin, ibin, xresult_eq, xress_nil, xress_tmp, resV, ex_some, if_true, if_false, ite_true, ite_false, reduceIte, reduceCtorEq, Nat.reduceEqDiff, Nat.reduceLT, Nat.reduceLeDiff, Int.reduceLT, Int.reduceLE, Nat.zero_add, Nat.reduceAdd, Bool.false_eq_true, decide_eq_true_eq, decide_eq_false_iff_not, true_implies, false_implies, and_true, true_and, fld3_0, fld3_1, l0, l1, e5, e6, c1, decide_false, bne_self_eq_false]
  refine wcheck_l0 t sv tv H.n l [] 0 H0 _ _ _ (by simpa using hs') ht' hB (by omega) hok ha (by simp; omega) (by simp) (by simp) ?_
  intro a' H2 hk
  simp only [ofArgs, run_seq, run_block, run_ops, run_skip, run_exit, run_ret, thenQ_normal, thenQ_exit, thenQ_ret, blockQ_normal, blockQ_exit, blockQ_ret, retQ_ret, retQ_normal, ops_nil, ops_none, got_some, ops_wT, ops_wTn, ops_wF, ops_wFn, ops_wU, dops_wT, dops_wTn, dops_wF, dops_wFn, dops_wU, run_condT, run_condF, alt2_int, altB_bool, altI_int, altBB_bool, v_min, v_max, v_not, v_neg, optEv_none, optEv_some, isSome'_none, isSome'_some, pExt0, pExt1, pExt2, Bool.false_and, Bool.true_and, Bool.not_true, Bool.not_false, cond_true, cond_false, dops_nil, dops_none, xval_call, v_mov, v_bin, v_len, v_ext, v_idxA, v_ld, v_st, v_app, v_appN, v_cvs, v_bs1, pBs1, v_slc, v_conv, v_fld, v_fldA, v_new, v_box, v_mks, v_copy, v_isnil, v_nilck, v_pick, ev, evs_nil, evs_cons, fr_get_cons, fr_put_nil, fr_put_cons, fr_put_some, fr_put_none, fr_keep_nil, fr_keep_cons, fr_has_nil, fr_has_cons, Option.bind_some, Option.map_some, xbin, ibin, xresult_eq, xress_nil, xress_tmp, resV, ex_some, if_true, if_false, ite_true, ite_false, reduceIte, reduceCtorEq, Nat.reduceEqDiff, Nat.reduceLT, Nat.reduceLeDiff, Int.reduceLT, Int.reduceLE, Nat.zero_add, Nat.reduceAdd, Bool.false_eq_true, decide_eq_true_eq, decide_eq_false_iff_not, true_implies, false_implies, and_true, true_and]
  exact hq H2 (hx.trans hk)

/-! ### weak.Read -/
def seed0 (s : Int) : Nat := (s % 18446744073709551616).toNat
theorem bd_sums (t : List Int) (ht : Ok t) (hl : t.length ≤ 1000) : Bd 100000000 (sums 0 t) := by
  intro j
  have h := sums_bnd t 0 (by omega) ht
  by_cases hj : j < (sums 0 t).length
  · have := h _ (List.getElem_mem hj)
    rw [List.getD_eq_getElem?_getD, List.getElem?_eq_getElem hj, Option.getD_some]
    omega
  · rw [List.getD_eq_getElem?_getD, List.getElem?_eq_none (by omega)]
    simp
theorem wread_len (l : List Spn) : ∀ x m, (wread l x m).2.length = m.length := by
  induction l with
  | nil => intro x m; rfl
  | cons s l ih => intro x m; unfold wread; rw [ih, wspan_len]
theorem wread_ok (t : List Int) (l : List Spn) (seed : Int) (sv tv : Value) (H : AH) (Q : Value → AH → Prop) (ht : Ints H tv t) (hs : Spns H sv l) (htl : t.length ≤ 1000) (hto : Ok t) (hok : SpOk t.length l) (ha : SpAsc 0 l) (hl : l.length ≤ 30)
    (hd : Ok (difs 0 (wread l (seed0 seed) (sums 0 t)).2))
    (hq : ∀ v H', OwnI H.n H' v (difs 0 (wread l (seed0 seed) (sums 0 t)).2) → HExt H H' → Q (.tuple [v, .int .i64 0].toArray) H') : Got (xc Try.prog tab 42 [.agg #[tv, sv], .int .i64 seed] H) Q := by
  refine got_call (res := [.tmp 4, .tmp 5]) rfl ?_
  have hx := hext_push H ⟨[tv, sv], 1, false, false⟩
  have vc : vcells (.agg #[tv, sv]) = [tv, sv] := rfl
  have hB : (H.push ⟨[tv, sv], 1, false, false⟩).get H.n = some ⟨[tv, sv], 1, false, false⟩ := by rw [AH.get_push, if_pos rfl]
  have hn : (H.push ⟨[tv, sv], 1, false, false⟩).n = H.n + 1 := rfl
  have l2 : pLd (some 2) (.pointer (some ⟨H.n, 0, none⟩)) (H.push ⟨[tv, sv], 1, false, false⟩) = some (.agg #[tv, sv], H.push ⟨[tv, sv], 1, false, false⟩) := by unfold pLd; simp only [hB]; rfl
  simp only [ofArgs, run_seq, run_block, run_ops, run_skip, run_exit, run_ret, thenQ_normal, thenQ_exit, thenQ_ret, blockQ_normal, blockQ_exit, blockQ_ret, retQ_ret, retQ_normal, ops_nil, ops_none, got_some, ops_wT, ops_wTn, ops_wF, ops_wFn, ops_wU, dops_wT, dops_wTn, dops_wF, dops_wFn, dops_wU, run_condT, run_condF, alt2_int, altB_bool, altI_int, altBB_bool, v_min, v_max, v_not, v_neg, optEv_none, optEv_some, isSome'_none, isSome'_some, pExt0, pExt1, pExt2, Bool.false_and, Bool.true_and, Bool.not_true, Bool.not_false, cond_true, cond_false, dops_nil, dops_none, xval_call, v_mov, v_bin, v_len, v_ext, v_idxA, v_ld, v_st, v_app, v_appN, v_cvs, v_bs1, pBs1, v_slc, v_conv, v_fld, v_fldA, v_new, v_box, v_mks, v_copy, v_isnil, v_nilck, v_pick, ev, evs_nil, evs_cons, fr_get_cons, fr_put_nil, fr_put_cons, fr_put_some, fr_put_none, fr_keep_nil, fr_keep_cons, fr_has_nil, fr_has_cons, Option.bind_some, Option.map_some, xbin, ibin, xresult_eq, xress_nil, xress_tmp, resV, ex_some, if_true, if_false, ite_true, ite_false, reduceIte, reduceCtorEq, Nat.reduceEqDiff, Nat.reduceLT, Nat.reduceLeDiff, Int.reduceLT, Int.reduceLE, Nat.zero_add, Nat.reduceAdd, Bool.false_eq_true, decide_eq_true_eq, decide_eq_false_iff_not, true_implies, false_implies, and_true, true_and, vc, l2]
  generalize H.push ⟨[tv, sv], 1, false, false⟩ = H0 at hx hB hn l2
  have ht' : Ints H0 tv t := Sl.ext hx ht
  have hs' : Spns H0 sv l := Sl.ext hx hs
  refine wcheck_ok t l sv tv H0 _ ht' hs' htl hto hok ha hl ?_
  intro H1 x1
  have ht1 : Ints H1 tv t := Sl.ext x1 ht'
  have hs1 : Spns H1 sv l := Sl.ext x1 hs'
  have hB1 := (x1.2 H.n (by omega)).trans hB
  have l0 : pLd none (.pointer (some ⟨H.n, 0, none⟩)) H1 = some (tv, H1) := by unfold pLd; simp only [hB1]; rfl
  have y1 := hx.trans x1
  have n1 := x1.1
  simp only [ofArgs, run_seq, run_block, run_ops, run_skip, run_exit, run_ret, thenQ_normal, thenQ_exit, thenQ_ret, blockQ_normal, blockQ_exit, blockQ_ret, retQ_ret, retQ_normal, ops_nil, ops_none, got_some, ops_wT, ops_wTn, ops_wF, ops_wFn, ops_wU, dops_wT, dops_wTn, dops_wF, dops_wFn, dops_wU, run_condT, run_condF, alt2_int, altB_bool, altI_int, altBB_bool, v_min, v_max, v_not, v_neg, optEv_none, optEv_some, isSome'_none, isSome'_some, pExt0, pExt1, pExt2, Bool.false_and, Bool.true_and, Bool.not_true, Bool.not_false, cond_true, cond_false, dops_nil, dops_none, xval_call, v_mov, v_bin, v_len, v_ext, v_idxA, v_ld, v_st, v_app, v_appN, v_cvs, v_bs1, pBs1, v_slc, v_conv, v_fld, v_fldA, v_new, v_box, v_mks, v_copy, v_isnil, v_nilck, v_pick, ev, evs_nil, evs_cons, fr_get_cons, fr_put_nil, fr_put_cons, fr_put_some, fr_put_none, fr_keep_nil, fr_keep_cons, fr_has_nil, fr_has_cons, Option.bind_some, Option.map_some, xbin, ibin, xresult_eq, xress_nil, xress_tmp, resV, ex_some, if_true, if_false, ite_true, ite_false, reduceIte, reduceCtorEq, Nat.reduceEqDiff, Nat.reduceLT, Nat.reduceLeDiff, Int.reduceLT, Int.reduceLE, Nat.zero_add, Nat.reduceAdd, Bool.false_eq_true, decide_eq_true_eq, decide_eq_false_iff_not, true_implies, false_implies, and_true, true_and, bne_self_eq_false, fld3_0, l0]
  refine marks_ok t tv H1 _ ht1 (by omega) hto ?_
  intro vm H2 ho2 x2
  have hB2 := (x2.2 H.n (by omega)).trans hB1
  have hs2 : Spns H2 sv l := Sl.ext x2 hs1
  have l1 : pLd none (.pointer (some ⟨H.n, 1, none⟩)) H2 = some (sv, H2) := by unfold pLd; simp only [hB2]; rfl
  have e6 := pLen_ok hs2
  have n2 := x2.1
  have cv : pConv IntKind.u64 (.int .i64 seed) H2 = some (.int .u64 (seed0 seed : Int), H2) := by
    have : IntKind.u64.wrap seed = (seed0 seed : Int) := by rw [wrU64]; unfold seed0; omega
    unfold pConv
    simp only [this]
  have sl := sums_len t 0
  simp only [ofArgs, run_seq, run_block, run_ops, run_skip, run_exit, run_ret, thenQ_normal, thenQ_exit, thenQ_ret, blockQ_normal, blockQ_exit, blockQ_ret, retQ_ret, retQ_normal, ops_nil, ops_none, got_some, ops_wT, ops_wTn, ops_wF, ops_wFn, ops_wU, dops_wT, dops_wTn, dops_wF, dops_wFn, dops_wU, run_condT, run_condF, alt2_int, altB_bool, altI_int, altBB_bool, v_min, v_max, v_not, v_neg, optEv_none, optEv_some, isSome'_none, isSome'_some, pExt0, pExt1, pExt2, Bool.false_and, Bool.true_and, Bool.not_true, Bool.not_false, cond_true, cond_false, dops_nil, dops_none, xval_call, v_mov, v_bin, v_len, v_ext, v_idxA, v_ld, v_st, v_app, v_appN, v_cvs, v_bs1, pBs1, v_slc, v_conv, v_fld, v_fldA, v_new, v_box, v_mks, v_copy, v_isnil, v_nilck, v_pick, ev, evs_nil, evs_cons, fr_get_cons, fr_put_nil, fr_put_cons, fr_put_some, fr_put_none, fr_keep_nil, fr_keep_cons, fr_has_nil, fr_has_cons, Option.bind_some, Option.map_some, xbin, ibin, xresult_eq, xress_nil, xress_tmp, resV, ex_some, if_true, if_false, ite_true, ite_false, reduceIte, reduceCtorEq, Nat.reduceEqDiff, Nat.reduceLT, Nat.reduceLeDiff, Int.reduceLT, Int.reduceLE, Nat.zero_add, Nat.reduceAdd, Bool.false_eq_true, decide_eq_true_eq, decide_eq_false_iff_not, true_implies, false_implies, and_true, true_and, fld3_1, l1, e6, cv, pExt0, pExt1]
  have hok2 : SpOk (sums 0 t).length l := by rw [sl]; exact hok
  refine wread_l1 H1.n sv vm l [] (seed0 seed) (sums 0 t) 100000000 H2 _ _ _ (by simpa using hs2) (fun b hb => hs1.lt hb) ho2 n2 hok2 (by omega) (by simp; omega) (by omega) (by omega) (bd_sums t hto htl) (by simp) (by simp) ?_
  intro H3 ho3 hk3
  have hl3 := wread_len l (seed0 seed) (sums 0 t)
  simp only [ofArgs, run_seq, run_block, run_ops, run_skip, run_exit, run_ret, thenQ_normal, thenQ_exit, thenQ_ret, blockQ_normal, blockQ_exit, blockQ_ret, retQ_ret, retQ_normal, ops_nil, ops_none, got_some, ops_wT, ops_wTn, ops_wF, ops_wFn, ops_wU, dops_wT, dops_wTn, dops_wF, dops_wFn, dops_wU, run_condT, run_condF, alt2_int, altB_bool, altI_int, altBB_bool, v_min, v_max, v_not, v_neg, optEv_none, optEv_some, isSome'_none, isSome'_some, pExt0, pExt1, pExt2, Bool.false_and, Bool.true_and, Bool.not_true, Bool.not_false, cond_true, cond_false, dops_nil, dops_none, xval_call, v_mov, v_bin, v_len, v_ext, v_idxA, v_ld, v_st, v_app, v_appN, v_cvs, v_bs1, pBs1, v_slc, v_conv, v_fld, v_fldA, v_new, v_box, v_mks, v_copy, v_isnil, v_nilck, v_pick, ev, evs_nil, evs_cons, fr_get_cons, fr_put_nil, fr_put_cons, fr_put_some, fr_put_none, fr_keep_nil, fr_keep_cons, fr_has_nil, fr_has_cons, Option.bind_some, Option.map_some, xbin, ibin, xresult_eq, xress_nil, xress_tmp, resV, ex_some, if_true, if_false, ite_true, ite_false, reduceIte, reduceCtorEq, Nat.reduceEqDiff, Nat.reduceLT, Nat.reduceLeDiff, Int.reduceLT, Int.reduceLE, Nat.zero_add, Nat.reduceAdd, Bool.false_eq_true, decide_eq_true_eq, decide_eq_false_iff_not, true_implies, false_implies, and_true, true_and]
  refine of_ok _ vm H3 _ ho3.ints (by omega) hd ?_
  intro v4 H4 ho4 x4
  have y2 := y1.trans x2
  have n3 := hk3.1
  have z3 : HExt H H3 := ⟨by have := y2.1; omega, fun b hb => (hk3.2 b (by omega)).trans (y2.2 b hb)⟩
  simp only [ofArgs, run_seq, run_block, run_ops, run_skip, run_exit, run_ret, thenQ_normal, thenQ_exit, thenQ_ret, blockQ_normal, blockQ_exit, blockQ_ret, retQ_ret, retQ_normal, ops_nil, ops_none, got_some, ops_wT, ops_wTn, ops_wF, ops_wFn, ops_wU, dops_wT, dops_wTn, dops_wF, dops_wFn, dops_wU, run_condT, run_condF, alt2_int, altB_bool, altI_int, altBB_bool, v_min, v_max, v_not, v_neg, optEv_none, optEv_some, isSome'_none, isSome'_some, pExt0, pExt1, pExt2, Bool.false_and, Bool.true_and, Bool.not_true, Bool.not_false, cond_true, cond_false, dops_nil, dops_none, xval_call, v_mov, v_bin, v_len, v_ext, v_idxA, v_ld, v_st, v_app, v_appN, v_cvs, v_bs1, pBs1, v_slc, v_conv, v_fld, v_fldA, v_new, v_box, v_mks, v_copy, v_isnil, v_nilck, v_pick, ev, evs_nil, evs_cons, fr_get_cons, fr_put_nil, fr_put_cons, fr_put_some, fr_put_none, fr_keep_nil, fr_keep_cons, fr_has_nil, fr_has_cons, Option.bind_some, Option.map_some, xbin, ibin, xresult_eq, xress_nil, xress_tmp, resV, ex_some, if_true, if_false, ite_true, ite_false, reduceIte, reduceCtorEq, Nat.reduceEqDiff, Nat.reduceLT, Nat.reduceLeDiff, Int.reduceLT, Int.reduceLE, Nat.zero_add, Nat.reduceAdd, Bool.false_eq_true, decide_eq_true_eq, decide_eq_false_iff_not, true_implies, false_implies, and_true, true_and, pExt0, pExt1]
  exact hq v4 H4 (ho4.le z3.1) (z3.trans x4)

/-! ### whether a place is weak -/
def inSp (i : Nat) (s : Spn) : Bool := decide (s.1 ≤ i) && decide (i < s.2.1)
theorem weak1_ok (s : Spn) (i B : Nat) (H : AH) (Q : Value → AH → Prop) (hB : H.get B = some ⟨[.int .i64 (i : Int)], 1, false, false⟩) (hBn : B < H.n) (hq : ∀ H', HExt H H' → Q (.bool (inSp i s)) H') :
    Got (xc Try.prog tab 45 [S3 s, .pointer (some ⟨B, 0, none⟩)] H) Q := by
  refine got_call (res := [.tmp 3]) rfl ?_
  have vc : vcells (S3 s) = [.int .i64 (s.1 : Int), .int .i64 (s.2.1 : Int), .int .i64 (s.2.2 : Int)] := rfl
  have hx := hext_push H ⟨[.int .i64 (s.1 : Int), .int .i64 (s.2.1 : Int), .int .i64 (s.2.2 : Int)], 1, false, false⟩
  have hP : (H.push ⟨[.int .i64 (s.1 : Int), .int .i64 (s.2.1 : Int), .int .i64 (s.2.2 : Int)], 1, false, false⟩).get H.n = some ⟨[.int .i64 (s.1 : Int), .int .i64 (s.2.1 : Int), .int .i64 (s.2.2 : Int)], 1, false, false⟩ := by rw [AH.get_push, if_pos rfl]
  simp only [ofArgs, run_seq, run_block, run_ops, run_skip, run_exit, run_ret, thenQ_normal, thenQ_exit, thenQ_ret, blockQ_normal, blockQ_exit, blockQ_ret, retQ_ret, retQ_normal, ops_nil, ops_none, got_some, ops_wT, ops_wTn, ops_wF, ops_wFn, ops_wU, dops_wT, dops_wTn, dops_wF, dops_wFn, dops_wU, run_condT, run_condF, alt2_int, altB_bool, altI_int, altBB_bool, v_min, v_max, v_not, v_neg, optEv_none, optEv_some, isSome'_none, isSome'_some, pExt0, pExt1, pExt2, Bool.false_and, Bool.true_and, Bool.not_true, Bool.not_false, cond_true, cond_false, dops_nil, dops_none, xval_call, v_mov, v_bin, v_len, v_ext, v_idxA, v_ld, v_st, v_app, v_appN, v_cvs, v_bs1, pBs1, v_slc, v_conv, v_fld, v_fldA, v_new, v_box, v_mks, v_copy, v_isnil, v_nilck, v_pick, ev, evs_nil, evs_cons, fr_get_cons, fr_put_nil, fr_put_cons, fr_put_some, fr_put_none, fr_keep_nil, fr_keep_cons, fr_has_nil, fr_has_cons, Option.bind_some, Option.map_some, xbin, ibin, xresult_eq, xress_nil, xress_tmp, resV, ex_some, if_true, if_false, ite_true, ite_false, reduceIte, reduceCtorEq, Nat.reduceEqDiff, Nat.reduceLT, Nat.reduceLeDiff, Int.reduceLT, Int.reduceLE, Nat.zero_add, Nat.reduceAdd, Bool.false_eq_true, decide_eq_true_eq, decide_eq_false_iff_not, true_implies, false_implies, and_true, true_and, vc]
  generalize H.push ⟨[.int .i64 (s.1 : Int), .int .i64 (s.2.1 : Int), .int .i64 (s.2.2 : Int)], 1, false, false⟩ = H0 at hx hP
  have l0 := ld3_0 hP
  have l1 := ld3_1 hP
  have lB := pLd_box ((hx.2 B hBn).trans hB)
  by_cases c1 : s.1 ≤ i
  · have d1 : (s.1 : Int) ≤ (i : Int) := by omega
    by_cases c2 : i < s.2.1
    · have d2 : (i : Int) < (s.2.1 : Int) := by omega
      have e : inSp i s = true := by simp [inSp, c1, c2]
      rw [e] at hq
      simp only [ofArgs, run_seq, run_block, run_ops, run_skip, run_exit, run_ret, thenQ_normal, thenQ_exit, thenQ_ret, blockQ_normal, blockQ_exit, blockQ_ret, retQ_ret, retQ_normal, ops_nil, ops_none, got_some, ops_wT, ops_wTn, ops_wF, ops_wFn, ops_wU, dops_wT, dops_wTn, dops_wF, dops_wFn, dops_wU, run_condT, run_condF, alt2_int, altB_bool, altI_int, altBB_bool, v_min, v_max, v_not, v_neg, optEv_none, optEv_some, isSome'_none, isSome'_some, pExt0, pExt1, pExt2, Bool.false_and, Bool.true_and, Bool.not_true, Bool.not_false, cond_true, cond_false, dops_nil, dops_none, xval_call, v_mov, v_bin, v_len, v_ext, v_idxA, v_ld, v_st, v_app, v_appN, v_cvs, v_bs1, pBs1, v_slc, v_conv, v_fld, v_fldA, v_new, v_box, v_mks, v_copy, v_isnil, v_nilck, v_pick, ev, evs_nil, evs_cons, fr_get_cons, fr_put_nil, fr_put_cons, fr_put_some, fr_put_none, fr_keep_nil, fr_keep_cons, fr_has_nil, fr_has_cons, Option.bind_some, Option.map_some, xbin, ibin, xresult_eq, xress_nil, xress_tmp, resV, ex_some, if_true, if_false, ite_true, ite_false, reduceIte, reduceCtorEq, Nat.reduceEqDiff, Nat.reduceLT, Nat.reduceLeDiff, Int.reduceLT, Int.reduceLE, Nat.zero_add, Nat.reduceAdd, Bool.false_eq_true, decide_eq_true_eq, decide_eq_false_iff_not, true_implies, false_implies, and_true, true_and, fld3_0, fld3_1, l0, l1, lB, d1, d2, decide_true]
      exact hq _ hx
    · have d2 : ¬ (i : Int) < (s.2.1 : Int) := by omega
      have e : inSp i s = false := by simp [inSp, c2]
      rw [e] at hq
      simp only [ofArgs, run_seq, run_block, run_ops, run_skip, run_exit, run_ret, thenQ_normal, thenQ_exit, thenQ_ret, blockQ_normal, blockQ_exit, blockQ_ret, retQ_ret, retQ_normal, ops_nil, ops_none, got_some, ops_wT, ops_wTn, ops_wF, ops_wFn, ops_wU, dops_wT, dops_wTn, dops_wF, dops_wFn, dops_wU, run_condT, run_condF, alt2_int, altB_bool, altI_int, altBB_bool, v_min, v_max, v_not, v_neg, optEv_none, optEv_some, isSome'_none, isSome'_some, pExt0, pExt1, pExt2, Bool.false_and, Bool.true_and, Bool.not_true, Bool.not_false, cond_true, cond_false, dops_nil, dops_none, xval_call, v_mov, v_bin, v_len, v_ext, v_idxA, v_ld, v_st, v_app, v_appN, v_cvs, v_bs1, pBs1, v_slc, v_conv, v_fld, v_fldA, v_new, v_box, v_mks, v_copy, v_isnil, v_nilck, v_pick, ev, evs_nil, evs_cons, fr_get_cons, fr_put_nil, fr_put_cons, fr_put_some, fr_put_none, fr_keep_nil, fr_keep_cons, fr_has_nil, fr_has_cons, Option.bind_some, Option.map_some, xbin, ibin, xresult_eq, xress_nil, xress_tmp, resV, ex_some, if_true, if_false, ite_true, ite_false, reduceIte, reduceCtorEq, Nat.reduceEqDiff, Nat.reduceLT, Nat.reduceLeDiff, Int.reduceLT, Int.reduceLE, Nat.zero_add, Nat.reduceAdd, Bool.false_eq_true, decide_eq_true_eq, decide_eq_false_iff_not, true_implies, false_implies, and_true, true_and, fld3_0, fld3_1, l0, l1, lB, d1, d2, decide_true, decide_false]
      exact hq _ hx
  · have d1 : ¬ (s.1 : Int) ≤ (i : Int) := by omega
    have e : inSp i s = false := by simp [inSp, c1]
    rw [e] at hq
    simp only [ofArgs, run_seq, run_block, run_ops, run_skip, run_exit, run_ret, thenQ_normal, thenQ_exit, thenQ_ret, blockQ_normal, blockQ_exit, blockQ_ret, retQ_ret, retQ_normal, ops_nil, ops_none, got_some, ops_wT, ops_wTn, ops_wF, ops_wFn, ops_wU, dops_wT, dops_wTn, dops_wF, dops_wFn, dops_wU, run_condT, run_condF, alt2_int, altB_bool, altI_int, altBB_bool, v_min, v_max, v_not, v_neg, optEv_none, optEv_some, isSome'_none, isSome'_some, pExt0, pExt1, pExt2, Bool.false_and, Bool.true_and, Bool.not_true, Bool.not_false, cond_true, cond_false, dops_nil, dops_none, xval_call, v_mov, v_bin, v_len, v_ext, v_idxA, v_ld, v_st, v_app, v_appN, v_cvs, v_bs1, pBs1, v_slc, v_conv, v_fld, v_fldA, v_new, v_box, v_mks, v_copy, v_isnil, v_nilck, v_pick, ev, evs_nil, evs_cons, fr_get_cons, fr_put_nil, fr_put_cons, fr_put_some, fr_put_none, fr_keep_nil, fr_keep_cons, fr_has_nil, fr_has_cons, Option.bind_some, Option.map_some, xbin, ibin, xresult_eq, xress_nil, xress_tmp, resV, ex_some, if_true, if_false, ite_true, ite_false, reduceIte, reduceCtorEq, Nat.reduceEqDiff, Nat.reduceLT, Nat.reduceLeDiff, Int.reduceLT, Int.reduceLE, Nat.zero_add, Nat.reduceAdd, Bool.false_eq_true, decide_eq_true_eq, decide_eq_false_iff_not, true_implies, false_implies, and_true, true_and, fld3_0, fld3_1, l0, l1, lB, d1, decide_false]
    exact hq _ hx
end Go.Proofs.Ytkhjmmidaihbhaa.D
