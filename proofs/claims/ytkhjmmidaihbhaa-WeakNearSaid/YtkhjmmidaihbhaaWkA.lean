/- What functions that the law reaches compute, on a heap of the run's own: the conditions stand in each theorem. -/
import Derived.Test.YtkhjmmidaihbhaaFvB
import Derived.Test.YtkhjmmidaihbhaaFxC
import Derived.Test.YtkhjmmidaihbhaaMkA
set_option linter.unusedSimpArgs false
set_option linter.unusedVariables false
namespace Go.Proofs.Ytkhjmmidaihbhaa.D
open Go Go.Det

/-! ### reading a track with weak places -/
def nxt (x : Nat) : Nat := (x * 6364136223846793005 + 1442695040888963407) % 18446744073709551616
theorem nxt_lt (x : Nat) : nxt x < 18446744073709551616 := Nat.mod_lt _ (by decide)
theorem next_xc (x : Nat) (H : AH) : xc Try.prog tab 67 [.int .u64 (x : Int)] H = some (.int .u64 (nxt x : Int), H) := by
  refine got_xc (got_call (res := [.tmp 2]) rfl ?_)
  have w : IntKind.u64.wrap (IntKind.u64.wrap ((x : Int) * 6364136223846793005) + 1442695040888963407) = (nxt x : Int) := by
    rw [wrU64, wrU64]; unfold nxt; omega
  simp only [ofArgs, run_seq, run_block, run_ops, run_skip, run_exit, run_ret, thenQ_normal, thenQ_exit, thenQ_ret, blockQ_normal, blockQ_exit, blockQ_ret, retQ_ret, retQ_normal, ops_nil, ops_none, got_some, ops_wT, ops_wTn, ops_wF, ops_wFn, ops_wU, dops_wT, dops_wTn, dops_wF, dops_wFn, dops_wU, run_condT, run_condF, alt2_int, altB_bool, altI_int, altBB_bool, v_min, v_max, v_not, v_neg, optEv_none, optEv_some, isSome'_none, isSome'_some, pExt0, pExt1, pExt2, Bool.false_and, Bool.true_and, Bool.not_true, Bool.not_false, cond_true, cond_false, dops_nil, dops_none, xval_call, v_mov, v_bin, v_len, v_ext, v_idxA, v_ld, v_st, v_app, v_appN, v_cvs, v_bs1, pBs1, v_slc, v_conv, v_fld, v_fldA, v_new, v_box, v_mks, v_copy, v_isnil, v_nilck, v_pick, ev, evs_nil, evs_cons, fr_get_cons, fr_put_nil, fr_put_cons, fr_put_some, fr_put_none, fr_keep_nil, fr_keep_cons, fr_has_nil, fr_has_cons, Option.bind_some, Option.map_some, xbin, ibin, xresult_eq, xress_nil, xress_tmp, resV, ex_some, if_true, if_false, ite_true, ite_false, reduceIte, reduceCtorEq, Nat.reduceEqDiff, Nat.reduceLT, Nat.reduceLeDiff, Int.reduceLT, Int.reduceLE, Nat.zero_add, Nat.reduceAdd, Bool.false_eq_true, decide_eq_true_eq, decide_eq_false_iff_not, true_implies, false_implies, and_true, true_and, w]
def wby (x b : Nat) : Int := ((x / 8589934592 % (2 * b + 1) : Nat) : Int) - (b : Int)
theorem wby_bd (x b : Nat) : -(b : Int) ≤ wby x b ∧ wby x b ≤ (b : Int) := by
  have := Nat.mod_lt (x / 8589934592) (by omega : 2 * b + 1 > 0)
  unfold wby; omega
def wlo (m : List Int) (i : Nat) : Int := if 0 < i then m.getD (i - 1) 0 + 1 else 1
def whi (m : List Int) (i : Nat) : Int := if i + 1 < m.length then m.getD (i + 1) 0 - 1 else m.getD i 0 + 100000
def wclamp (lo hi a : Int) : Int := if lo < (if a < hi then a else hi) then (if a < hi then a else hi) else lo
def wval (m : List Int) (i : Nat) (d : Int) : Int := wclamp (wlo m i) (whi m i) (m.getD i 0 + d)
def wspan (b : Nat) : Nat → Nat → Nat → List Int → Nat × List Int
  | 0, _, x, m => (x, m)
  | k + 1, i, x, m => wspan b k (i + 1) (nxt x) (m.set i (wval m i (wby (nxt x) b)))
def wread : List (Nat × Nat × Nat) → Nat → List Int → Nat × List Int
  | [], x, m => (x, m)
  | s :: r, x, m => wread r (wspan s.2.2 (s.2.1 - s.1) s.1 x m).1 (wspan s.2.2 (s.2.1 - s.1) s.1 x m).2
def Bd (c : Int) (m : List Int) : Prop := ∀ j, -c ≤ m.getD j 0 ∧ m.getD j 0 ≤ c
theorem getD_set (m : List Int) (i j : Nat) (v : Int) (hi : i < m.length) : (m.set i v).getD j 0 = if i = j then v else m.getD j 0 := by
  simp only [List.getD_eq_getElem?_getD, List.getElem?_set]
  by_cases h : i = j
  · subst h; simp [hi]
  · simp [h]
theorem wval_bd (c : Int) (hc : 0 ≤ c) (m : List Int) (i : Nat) (d : Int) (h : Bd c m) (hd : -100 ≤ d ∧ d ≤ 100) : -(c + 100001) ≤ wval m i d ∧ wval m i d ≤ c + 100001 := by
  have h1 := h i
  have h2 := h (i - 1)
  have h3 := h (i + 1)
  unfold wval wclamp wlo whi
  split <;> split <;> split <;> split <;> omega
theorem bd_set (c : Int) (hc : 0 ≤ c) (m : List Int) (i : Nat) (d : Int) (h : Bd c m) (hd : -100 ≤ d ∧ d ≤ 100) (hi : i < m.length) : Bd (c + 100001) (m.set i (wval m i d)) := by
  intro j
  rw [getD_set _ _ _ _ hi]
  have := wval_bd c hc m i d h hd
  have := h j
  split <;> omega
theorem wspan_len (b k : Nat) : ∀ i x m, (wspan b k i x m).2.length = m.length := by
  induction k with
  | zero => intro i x m; rfl
  | succ k ih => intro i x m; unfold wspan; rw [ih]; simp
theorem wspan_lt (b k : Nat) : ∀ i x m, x < 18446744073709551616 → (wspan b k i x m).1 < 18446744073709551616 := by
  induction k with
  | zero => intro i x m h; exact h
  | succ k ih => intro i x m h; unfold wspan; exact ih _ _ _ (nxt_lt x)
theorem wspan_bd (b : Nat) (hb : b ≤ 100) (k : Nat) : ∀ i x m c, 0 ≤ c → i + k ≤ m.length → Bd c m → Bd (c + 100001 * k) (wspan b k i x m).2 := by
  induction k with
  | zero => intro i x m c hc hk h; simpa [wspan] using h
  | succ k ih =>
    intro i x m c hc hk h
    unfold wspan
    have hd := wby_bd (nxt x) b
    have := ih (i + 1) (nxt x) (m.set i (wval m i (wby (nxt x) b))) (c + 100001) (by omega) (by simp; omega) (bd_set c hc m i _ h (by omega) (by omega))
    have e : c + 100001 + 100001 * (k : Int) = c + 100001 * ((k + 1 : Nat) : Int) := by omega
    rw [e] at this
    exact this
theorem getD_some (m : List Int) (i : Nat) (h : i < m.length) : m[i]? = some (m.getD i 0) := by
  simp [List.getD_eq_getElem?_getD, List.getElem?_eq_getElem h]

set_option maxHeartbeats 4000000 in
theorem wspan_l0 (n0 B f t b : Nat) (hb : b ≤ 100) (vm sv : Value) (N K : Int) (k : Nat) : ∀ (i x : Nat) (m : List Int) (c : Int) (H : AH) (Q : XExit → Fr → AH → Prop), i + k = t → t ≤ m.length → m.length ≤ 100000 → 0 ≤ c → c + 100001 * (k : Int) ≤ 1000000000000000 → Bd c m →
    H.get B = some ⟨[.int .i64 (f : Int), .int .i64 (t : Int), .int .i64 (b : Int)], 1, false, false⟩ → B < H.n → ¬ inB vm B → OwnI n0 H vm m → n0 ≤ H.n →
    (∀ H', OwnI n0 H' vm (wspan b k i x m).2 → H.n ≤ H'.n → (∀ d, d < H.n → ¬ inB vm d → H'.get d = H.get d) →
      Q (.exit 2) [(7, vm), (9, .int .u64 ((wspan b k i x m).1 : Int)), (11, .pointer (some ⟨B, 0, none⟩)), (12, .int .i64 (t : Int)), (30, sv), (31, .int .i64 N), (32, .int .i64 K), (41, .bool false)] H') →
    Run Try.prog tab (.loop xweak_Read_l0) [(7, vm), (9, .int .u64 (x : Int)), (11, .pointer (some ⟨B, 0, none⟩)), (12, .int .i64 (i : Int)), (30, sv), (31, .int .i64 N), (32, .int .i64 K)] H Q := by
  induction k with
  | zero =>
    intro i x m c H Q hik ht hm hc hcb hbd hB hBn hBv ho hH hq
    have : i = t := by omega
    subst this
    rw [run_loop]
    generalize hL : XCode.loop xweak_Read_l0 = L
    have l1 := ld3_1 hB
    have hf : ¬ (i : Int) < (i : Int) := by omega
    simp only [xweak_Read_l0, ofArgs, run_seq, run_block, run_ops, run_skip, run_exit, run_ret, thenQ_normal, thenQ_exit, thenQ_ret, blockQ_normal, blockQ_exit, blockQ_ret, retQ_ret, retQ_normal, ops_nil, ops_none, got_some, ops_wT, ops_wTn, ops_wF, ops_wFn, ops_wU, dops_wT, dops_wTn, dops_wF, dops_wFn, dops_wU, run_condT, run_condF, alt2_int, altB_bool, altI_int, altBB_bool, v_min, v_max, v_not, v_neg, optEv_none, optEv_some, isSome'_none, isSome'_some, pExt0, pExt1, pExt2, Bool.false_and, Bool.true_and, Bool.not_true, Bool.not_false, cond_true, cond_false, dops_nil, dops_none, xval_call, v_mov, v_bin, v_len, v_ext, v_idxA, v_ld, v_st, v_app, v_appN, v_cvs, v_bs1, pBs1, v_slc, v_conv, v_fld, v_fldA, v_new, v_box, v_mks, v_copy, v_isnil, v_nilck, v_pick, ev, evs_nil, evs_cons, fr_get_cons, fr_put_nil, fr_put_cons, fr_put_some, fr_put_none, fr_keep_nil, fr_keep_cons, fr_has_nil, fr_has_cons, Option.bind_some, Option.map_some, xbin, ibin, xresult_eq, xress_nil, xress_tmp, resV, ex_some, if_true, if_false, ite_true, ite_false, reduceIte, reduceCtorEq, Nat.reduceEqDiff, Nat.reduceLT, Nat.reduceLeDiff, Int.reduceLT, Int.reduceLE, Nat.zero_add, Nat.reduceAdd, Bool.false_eq_true, decide_eq_true_eq, decide_eq_false_iff_not, true_implies, false_implies, and_true, true_and, pFldA_ptr, l1, hf, decide_false]
    exact hq H ho (Nat.le_refl _) (fun _ _ _ => rfl)
  | succ k ih =>
    intro i x m c H Q hik ht hm hc hcb hbd hB hBn hBv ho hH hq
    rw [run_loop]
    generalize hL : XCode.loop xweak_Read_l0 = L
    have l1 := ld3_1 hB
    have l2 := ld3_2 hB
    have hlt : (i : Int) < (t : Int) := by omega
    have hs := ho.ints
    have hi : i < m.length := by omega
    have nx := next_xc x H
    have e1 := ints_idx hs i i rfl hi
    have e2 := ints_ld hs i _ (getD_some m i hi)
    have m33 : min (Int.toNat 33) IntKind.u64.bits = 33 := rfl
    have n33 : ¬ (33 : Int) < 0 := by decide
    have s33 : ((nxt x : Nat) : Int).fdiv (2 ^ 33) = ((nxt x / 8589934592 : Nat) : Int) := by rw [shrN, Nat.shiftRight_eq_div_pow]
    have w1 := wrI (2 * (b : Int)) (by omega) (by omega)
    have w2 := wrI (2 * (b : Int) + 1) (by omega) (by omega)
    have w3 : pConv IntKind.u64 (.int .i64 (2 * (b : Int) + 1)) H = some (.int .u64 ((2 * b + 1 : Nat) : Int), H) := by
      have : IntKind.u64.wrap (2 * (b : Int) + 1) = ((2 * b + 1 : Nat) : Int) := by rw [wrU64]; omega
      unfold pConv
      simp only [this]
    have z : ¬ ((2 * b + 1 : Nat) : Int) = 0 := by omega
    have tm : ((nxt x / 8589934592 : Nat) : Int).tmod ((2 * b + 1 : Nat) : Int) = ((nxt x / 8589934592 % (2 * b + 1) : Nat) : Int) := rfl
    have hm0 := Nat.mod_lt (nxt x / 8589934592) (by omega : 2 * b + 1 > 0)
    have w4 : pConv IntKind.i64 (.int .u64 ((nxt x / 8589934592 % (2 * b + 1) : Nat) : Int)) H = some (.int .i64 ((nxt x / 8589934592 % (2 * b + 1) : Nat) : Int), H) := by
      unfold pConv
      simp only [wrI _ (by omega : -9223372036854775808 ≤ ((nxt x / 8589934592 % (2 * b + 1) : Nat) : Int)) (by omega)]
    have w5 : IntKind.i64.wrap (((nxt x / 8589934592 % (2 * b + 1) : Nat) : Int) - (b : Int)) = wby (nxt x) b := wrI _ (by omega) (by omega)
    have hd := wby_bd (nxt x) b
    have b1 := hbd i
    have b2 := hbd (i - 1)
    have b3 := hbd (i + 1)
    have w6 := wrI (m.getD i 0 + 100000) (by omega) (by omega)
    have w7 := wrI (m.getD i 0 + wby (nxt x) b) (by omega) (by omega)
    have w8 := wrI ((i : Int) - 1) (by omega) (by omega)
    have w9 := wrI ((i : Int) + 1) (by omega) (by omega)
    have w10 := wrI (m.getD (i - 1) 0 + 1) (by omega) (by omega)
    have w11 := wrI (m.getD (i + 1) 0 - 1) (by omega) (by omega)
    have hlen := pLen_ok hs
    simp only [xweak_Read_l0, ofArgs, run_seq, run_block, run_ops, run_skip, run_exit, run_ret, thenQ_normal, thenQ_exit, thenQ_ret, blockQ_normal, blockQ_exit, blockQ_ret, retQ_ret, retQ_normal, ops_nil, ops_none, got_some, ops_wT, ops_wTn, ops_wF, ops_wFn, ops_wU, dops_wT, dops_wTn, dops_wF, dops_wFn, dops_wU, run_condT, run_condF, alt2_int, altB_bool, altI_int, altBB_bool, v_min, v_max, v_not, v_neg, optEv_none, optEv_some, isSome'_none, isSome'_some, pExt0, pExt1, pExt2, Bool.false_and, Bool.true_and, Bool.not_true, Bool.not_false, cond_true, cond_false, dops_nil, dops_none, xval_call, v_mov, v_bin, v_len, v_ext, v_idxA, v_ld, v_st, v_app, v_appN, v_cvs, v_bs1, pBs1, v_slc, v_conv, v_fld, v_fldA, v_new, v_box, v_mks, v_copy, v_isnil, v_nilck, v_pick, ev, evs_nil, evs_cons, fr_get_cons, fr_put_nil, fr_put_cons, fr_put_some, fr_put_none, fr_keep_nil, fr_keep_cons, fr_has_nil, fr_has_cons, Option.bind_some, Option.map_some, xbin, ibin, xresult_eq, xress_nil, xress_tmp, resV, ex_some, if_true, if_false, ite_true, ite_false, reduceIte, reduceCtorEq, Nat.reduceEqDiff, Nat.reduceLT, Nat.reduceLeDiff, Int.reduceLT, Int.reduceLE, Nat.zero_add, Nat.reduceAdd, Bool.false_eq_true, decide_eq_true_eq, decide_eq_false_iff_not, true_implies, false_implies, and_true, true_and, pFldA_ptr, l1, hlt, decide_true, nx]
    refine run_dops _ _ _ _ _ rfl ?_
    simp only [ofArgs, run_seq, run_block, run_ops, run_skip, run_exit, run_ret, thenQ_normal, thenQ_exit, thenQ_ret, blockQ_normal, blockQ_exit, blockQ_ret, retQ_ret, retQ_normal, ops_nil, ops_none, got_some, ops_wT, ops_wTn, ops_wF, ops_wFn, ops_wU, dops_wT, dops_wTn, dops_wF, dops_wFn, dops_wU, run_condT, run_condF, alt2_int, altB_bool, altI_int, altBB_bool, v_min, v_max, v_not, v_neg, optEv_none, optEv_some, isSome'_none, isSome'_some, pExt0, pExt1, pExt2, Bool.false_and, Bool.true_and, Bool.not_true, Bool.not_false, cond_true, cond_false, dops_nil, dops_none, xval_call, v_mov, v_bin, v_len, v_ext, v_idxA, v_ld, v_st, v_app, v_appN, v_cvs, v_bs1, pBs1, v_slc, v_conv, v_fld, v_fldA, v_new, v_box, v_mks, v_copy, v_isnil, v_nilck, v_pick, ev, evs_nil, evs_cons, fr_get_cons, fr_put_nil, fr_put_cons, fr_put_some, fr_put_none, fr_keep_nil, fr_keep_cons, fr_has_nil, fr_has_cons, Option.bind_some, Option.map_some, xbin, ibin, xresult_eq, xress_nil, xress_tmp, resV, ex_some, if_true, if_false, ite_true, ite_false, reduceIte, reduceCtorEq, Nat.reduceEqDiff, Nat.reduceLT, Nat.reduceLeDiff, Int.reduceLT, Int.reduceLE, Nat.zero_add, Nat.reduceAdd, Bool.false_eq_true, decide_eq_true_eq, decide_eq_false_iff_not, true_implies, false_implies, and_true, true_and, pFldA_ptr, l2, m33, n33, s33, w1, w2, w3, z, tm, w4, w5]
    refine run_dops _ _ _ _ _ rfl ?_
    simp only [ofArgs, run_seq, run_block, run_ops, run_skip, run_exit, run_ret, thenQ_normal, thenQ_exit, thenQ_ret, blockQ_normal, blockQ_exit, blockQ_ret, retQ_ret, retQ_normal, ops_nil, ops_none, got_some, ops_wT, ops_wTn, ops_wF, ops_wFn, ops_wU, dops_wT, dops_wTn, dops_wF, dops_wFn, dops_wU, run_condT, run_condF, alt2_int, altB_bool, altI_int, altBB_bool, v_min, v_max, v_not, v_neg, optEv_none, optEv_some, isSome'_none, isSome'_some, pExt0, pExt1, pExt2, Bool.false_and, Bool.true_and, Bool.not_true, Bool.not_false, cond_true, cond_false, dops_nil, dops_none, xval_call, v_mov, v_bin, v_len, v_ext, v_idxA, v_ld, v_st, v_app, v_appN, v_cvs, v_bs1, pBs1, v_slc, v_conv, v_fld, v_fldA, v_new, v_box, v_mks, v_copy, v_isnil, v_nilck, v_pick, ev, evs_nil, evs_cons, fr_get_cons, fr_put_nil, fr_put_cons, fr_put_some, fr_put_none, fr_keep_nil, fr_keep_cons, fr_has_nil, fr_has_cons, Option.bind_some, Option.map_some, xbin, ibin, xresult_eq, xress_nil, xress_tmp, resV, ex_some, if_true, if_false, ite_true, ite_false, reduceIte, reduceCtorEq, Nat.reduceEqDiff, Nat.reduceLT, Nat.reduceLeDiff, Int.reduceLT, Int.reduceLE, Nat.zero_add, Nat.reduceAdd, Bool.false_eq_true, decide_eq_true_eq, decide_eq_false_iff_not, true_implies, false_implies, and_true, true_and, e1, e2, w6]
    generalize hwb : wby (nxt x) b = d at *
    -- what is done with both bounds
    have last : ∀ lo hi, lo = wlo m i → hi = whi m i → Got (pSt 1 (ptrAt vm i) (.int .i64 (if lo < (if m.getD i 0 + d < hi then m.getD i 0 + d else hi) then (if m.getD i 0 + d < hi then m.getD i 0 + d else hi) else lo)) H) fun v H' =>
        Run Try.prog tab L [(7, vm), (9, .int .u64 (nxt x : Int)), (11, .pointer (some ⟨B, 0, none⟩)), (12, .int .i64 ((i : Int) + 1)), (30, sv), (31, .int .i64 N), (32, .int .i64 K)] H' Q := by
      intro lo hi h1 h2
      subst h1 h2
      show Got (pSt 1 (ptrAt vm i) (.int .i64 (wval m i d)) H) _
      refine pSt_own ho (by simp; omega) rfl rfl ?_
      intro H' ho' hs'
      have hk := hs'.keep ho hH
      subst hL
      have ho2 : OwnI n0 H' vm (m.set i (wval m i d)) := by
        have el : (m.set i (wval m i d)).length = m.length := by simp
        unfold OwnI
        rw [el]
        have em : (m.set i (wval m i d)).map (Value.int .i64) = (m.map (Value.int .i64)).set i (.int .i64 (wval m i d)) := by simp
        rw [em]; exact ho'
      have hB' : H'.get B = some ⟨[.int .i64 (f : Int), .int .i64 (t : Int), .int .i64 (b : Int)], 1, false, false⟩ := (hs'.get B hBn hBv).trans hB
      have hn := hk.1
      have := ih (i + 1) (nxt x) (m.set i (wval m i d)) (c + 100001) H' Q (by omega) (by simp; omega) (by simp; omega) (by omega) (by omega) (bd_set c hc m i d hbd (by omega) hi) hB' (by omega) hBv ho2 (by omega) ?_
      · exact this
      · intro H2 ho3 hn2 hk2
        have hh := hq H2
        unfold wspan at hh
        rw [hwb] at hh
        exact hh ho3 (by omega) (fun e he hv => (hk2 e (by omega) hv).trans (hs'.get e he hv))
    by_cases c1 : 0 < i
    · have g1 : (i : Int) > 0 := by omega
      have e3 := ints_idx hs ((i : Int) - 1) (i - 1) (by omega) (by omega)
      have e4 := ints_ld hs (i - 1) _ (getD_some m (i - 1) (by omega))
      by_cases c2 : i + 1 < m.length
      · have g2 : (i : Int) + 1 < (m.length : Int) := by omega
        have e5 := ints_idx hs ((i : Int) + 1) (i + 1) (by omega) (by omega)
        have e6 := ints_ld hs (i + 1) _ (getD_some m (i + 1) c2)
        simp only [ofArgs, run_seq, run_block, run_ops, run_skip, run_exit, run_ret, thenQ_normal, thenQ_exit, thenQ_ret, blockQ_normal, blockQ_exit, blockQ_ret, retQ_ret, retQ_normal, ops_nil, ops_none, got_some, ops_wT, ops_wTn, ops_wF, ops_wFn, ops_wU, dops_wT, dops_wTn, dops_wF, dops_wFn, dops_wU, run_condT, run_condF, alt2_int, altB_bool, altI_int, altBB_bool, v_min, v_max, v_not, v_neg, optEv_none, optEv_some, isSome'_none, isSome'_some, pExt0, pExt1, pExt2, Bool.false_and, Bool.true_and, Bool.not_true, Bool.not_false, cond_true, cond_false, dops_nil, dops_none, xval_call, v_mov, v_bin, v_len, v_ext, v_idxA, v_ld, v_st, v_app, v_appN, v_cvs, v_bs1, pBs1, v_slc, v_conv, v_fld, v_fldA, v_new, v_box, v_mks, v_copy, v_isnil, v_nilck, v_pick, ev, evs_nil, evs_cons, fr_get_cons, fr_put_nil, fr_put_cons, fr_put_some, fr_put_none, fr_keep_nil, fr_keep_cons, fr_has_nil, fr_has_cons, Option.bind_some, Option.map_some, xbin, ibin, xresult_eq, xress_nil, xress_tmp, resV, ex_some, if_true, if_false, ite_true, ite_false, reduceIte, reduceCtorEq, Nat.reduceEqDiff, Nat.reduceLT, Nat.reduceLeDiff, Int.reduceLT, Int.reduceLE, Nat.zero_add, Nat.reduceAdd, Bool.false_eq_true, decide_eq_true_eq, decide_eq_false_iff_not, true_implies, false_implies, and_true, true_and, g1, g2, decide_true, hlen, w8, w9, w10, w11, e1, e2, e3, e4, e5, e6, w7]
        refine (last _ _ (by unfold wlo; rw [if_pos c1]) (by unfold whi; rw [if_pos c2])).mono ?_
        intro v H' h
        exact h
      · have g2 : ¬ (i : Int) + 1 < (m.length : Int) := by omega
        simp only [ofArgs, run_seq, run_block, run_ops, run_skip, run_exit, run_ret, thenQ_normal, thenQ_exit, thenQ_ret, blockQ_normal, blockQ_exit, blockQ_ret, retQ_ret, retQ_normal, ops_nil, ops_none, got_some, ops_wT, ops_wTn, ops_wF, ops_wFn, ops_wU, dops_wT, dops_wTn, dops_wF, dops_wFn, dops_wU, run_condT, run_condF, alt2_int, altB_bool, altI_int, altBB_bool, v_min, v_max, v_not, v_neg, optEv_none, optEv_some, isSome'_none, isSome'_some, pExt0, pExt1, pExt2, Bool.false_and, Bool.true_and, Bool.not_true, Bool.not_false, cond_true, cond_false, dops_nil, dops_none, xval_call, v_mov, v_bin, v_len, v_ext, v_idxA, v_ld, v_st, v_app, v_appN, v_cvs, v_bs1, pBs1, v_slc, v_conv, v_fld, v_fldA, v_new, v_box, v_mks, v_copy, v_isnil, v_nilck, v_pick, ev, evs_nil, evs_cons, fr_get_cons, fr_put_nil, fr_put_cons, fr_put_some, fr_put_none, fr_keep_nil, fr_keep_cons, fr_has_nil, fr_has_cons, Option.bind_some, Option.map_some, xbin, ibin, xresult_eq, xress_nil, xress_tmp, resV, ex_some, if_true, if_false, ite_true, ite_false, reduceIte, reduceCtorEq, Nat.reduceEqDiff, Nat.reduceLT, Nat.reduceLeDiff, Int.reduceLT, Int.reduceLE, Nat.zero_add, Nat.reduceAdd, Bool.false_eq_true, decide_eq_true_eq, decide_eq_false_iff_not, true_implies, false_implies, and_true, true_and, g1, g2, decide_true, decide_false, hlen, w8, w9, w10, e1, e2, e3, e4, w7]
        refine (last _ _ (by unfold wlo; rw [if_pos c1]) (by unfold whi; rw [if_neg c2])).mono ?_
        intro v H' h
        exact h
    · have g1 : ¬ (i : Int) > 0 := by omega
      by_cases c2 : i + 1 < m.length
      · have g2 : (i : Int) + 1 < (m.length : Int) := by omega
        have e5 := ints_idx hs ((i : Int) + 1) (i + 1) (by omega) (by omega)
        have e6 := ints_ld hs (i + 1) _ (getD_some m (i + 1) c2)
        simp only [ofArgs, run_seq, run_block, run_ops, run_skip, run_exit, run_ret, thenQ_normal, thenQ_exit, thenQ_ret, blockQ_normal, blockQ_exit, blockQ_ret, retQ_ret, retQ_normal, ops_nil, ops_none, got_some, ops_wT, ops_wTn, ops_wF, ops_wFn, ops_wU, dops_wT, dops_wTn, dops_wF, dops_wFn, dops_wU, run_condT, run_condF, alt2_int, altB_bool, altI_int, altBB_bool, v_min, v_max, v_not, v_neg, optEv_none, optEv_some, isSome'_none, isSome'_some, pExt0, pExt1, pExt2, Bool.false_and, Bool.true_and, Bool.not_true, Bool.not_false, cond_true, cond_false, dops_nil, dops_none, xval_call, v_mov, v_bin, v_len, v_ext, v_idxA, v_ld, v_st, v_app, v_appN, v_cvs, v_bs1, pBs1, v_slc, v_conv, v_fld, v_fldA, v_new, v_box, v_mks, v_copy, v_isnil, v_nilck, v_pick, ev, evs_nil, evs_cons, fr_get_cons, fr_put_nil, fr_put_cons, fr_put_some, fr_put_none, fr_keep_nil, fr_keep_cons, fr_has_nil, fr_has_cons, Option.bind_some, Option.map_some, xbin, ibin, xresult_eq, xress_nil, xress_tmp, resV, ex_some, if_true, if_false, ite_true, ite_false, reduceIte, reduceCtorEq, Nat.reduceEqDiff, Nat.reduceLT, Nat.reduceLeDiff, Int.reduceLT, Int.reduceLE, Nat.zero_add, Nat.reduceAdd, Bool.false_eq_true, decide_eq_true_eq, decide_eq_false_iff_not, true_implies, false_implies, and_true, true_and, g1, g2, decide_true, decide_false, hlen, w9, w11, e1, e2, e5, e6, w7]
        refine (last _ _ (by unfold wlo; rw [if_neg c1]) (by unfold whi; rw [if_pos c2])).mono ?_
        intro v H' h
        exact h
      · have g2 : ¬ (i : Int) + 1 < (m.length : Int) := by omega
        simp only [ofArgs, run_seq, run_block, run_ops, run_skip, run_exit, run_ret, thenQ_normal, thenQ_exit, thenQ_ret, blockQ_normal, blockQ_exit, blockQ_ret, retQ_ret, retQ_normal, ops_nil, ops_none, got_some, ops_wT, ops_wTn, ops_wF, ops_wFn, ops_wU, dops_wT, dops_wTn, dops_wF, dops_wFn, dops_wU, run_condT, run_condF, alt2_int, altB_bool, altI_int, altBB_bool, v_min, v_max, v_not, v_neg, optEv_none, optEv_some, isSome'_none, isSome'_some, pExt0, pExt1, pExt2, Bool.false_and, Bool.true_and, Bool.not_true, Bool.not_false, cond_true, cond_false, dops_nil, dops_none, xval_call, v_mov, v_bin, v_len, v_ext, v_idxA, v_ld, v_st, v_app, v_appN, v_cvs, v_bs1, pBs1, v_slc, v_conv, v_fld, v_fldA, v_new, v_box, v_mks, v_copy, v_isnil, v_nilck, v_pick, ev, evs_nil, evs_cons, fr_get_cons, fr_put_nil, fr_put_cons, fr_put_some, fr_put_none, fr_keep_nil, fr_keep_cons, fr_has_nil, fr_has_cons, Option.bind_some, Option.map_some, xbin, ibin, xresult_eq, xress_nil, xress_tmp, resV, ex_some, if_true, if_false, ite_true, ite_false, reduceIte, reduceCtorEq, Nat.reduceEqDiff, Nat.reduceLT, Nat.reduceLeDiff, Int.reduceLT, Int.reduceLE, Nat.zero_add, Nat.reduceAdd, Bool.false_eq_true, decide_eq_true_eq, decide_eq_false_iff_not, true_implies, false_implies, and_true, true_and, g1, g2, decide_false, hlen, w9, e1, e2, w7]
        refine (last _ _ (by unfold wlo; rw [if_neg c1]) (by unfold whi; rw [if_neg c2])).mono ?_
        intro v H' h
        exact h
end Go.Proofs.Ytkhjmmidaihbhaa.D
