/- What functions that the law reaches compute, on a heap of the run's own: the conditions stand in each theorem. -/
import Derived.Test.YtejedmocjdcdgaaEnA
set_option linter.unusedSimpArgs false
set_option linter.unusedVariables false
set_option maxRecDepth 1000000
namespace Go.Proofs.Ytejedmocjdcdgaa.D
open Go Go.Det

theorem names0 : okT (xcall Try.prog tab 100000 7 [.int .i64 0] ⟨Try.prog.globals.size, .leaf⟩) = true := by kernel_rfl
theorem names1 : okT (xcall Try.prog tab 100000 7 [.int .i64 1] ⟨Try.prog.globals.size, .leaf⟩) = true := by kernel_rfl
theorem names2 : okT (xcall Try.prog tab 100000 7 [.int .i64 2] ⟨Try.prog.globals.size, .leaf⟩) = true := by kernel_rfl
theorem names_mod (i r : Int) (hr : r % 3 = i % 3) (H : AH) (Q : Value → AH → Prop) (h : Got (xc Try.prog tab 7 [.int .i64 r] H) Q) :
    Got (xc Try.prog tab 7 [.int .i64 i] H) Q := by
  have h := got_call_inv (res := [.tmp 2]) rfl h
  refine got_call (res := [.tmp 2]) rfl ?_
  have b1 := fun H => below_xc i 3 H (by omega) (by omega)
  have b2 := fun H => below_xc r 3 H (by omega) (by omega)
  rw [hr] at b2
  have u1 : ∀ (fr : Fr) (H : AH), xval Try.prog (xc Try.prog tab) ⟨some 11, .build [.string (ByteArray.mk #[]), .int .i64 0] [(0, 1, .const (.string (ByteArray.mk #[120]))), (1, 1, .const (.int .i64 1))], none⟩ fr H = some (.agg #[.string (ByteArray.mk #[120]), .int .i64 1], H) := fun _ _ => rfl
  have u2 : ∀ (fr : Fr) (H : AH), xval Try.prog (xc Try.prog tab) ⟨some 12, .build [.string (ByteArray.mk #[]), .int .i64 0] [(0, 1, .const (.string (ByteArray.mk #[121]))), (1, 1, .const (.int .i64 2))], none⟩ fr H = some (.agg #[.string (ByteArray.mk #[121]), .int .i64 2], H) := fun _ _ => rfl
  have u3 : ∀ (fr : Fr) (H : AH), xval Try.prog (xc Try.prog tab) ⟨some 13, .build [.string (ByteArray.mk #[]), .int .i64 0] [(0, 1, .const (.string (ByteArray.mk #[122]))), (1, 1, .const (.int .i64 3))], none⟩ fr H = some (.agg #[.string (ByteArray.mk #[122]), .int .i64 3], H) := fun _ _ => rfl
  have u4 : ∀ (j : Int) (H : AH), xval Try.prog (xc Try.prog tab) ⟨some 14, .bslice 70 2 3 [.string (ByteArray.mk #[]), .int .i64 0] [(0, .tmp 11), (1, .tmp 12), (2, .tmp 13)], none⟩ [(0, .int .i64 j), (11, .agg #[.string (ByteArray.mk #[120]), .int .i64 1]), (12, .agg #[.string (ByteArray.mk #[121]), .int .i64 2]), (13, .agg #[.string (ByteArray.mk #[122]), .int .i64 3])] H =
      some (.slice (some ⟨H.n, 0, none⟩) 3 3, H.push ⟨[.string (ByteArray.mk #[120]), .int .i64 1, .string (ByteArray.mk #[121]), .int .i64 2, .string (ByteArray.mk #[122]), .int .i64 3], 2, false, false⟩) := fun _ _ => rfl
  simp only [ofArgs, run_seq, run_block, run_ops, run_skip, run_exit, run_ret, thenQ_normal, thenQ_exit, thenQ_ret, blockQ_normal, blockQ_exit, blockQ_ret, retQ_ret, retQ_normal, ops_nil, ops_none, got_some, ops_wT, ops_wTn, ops_wF, ops_wFn, ops_wU, dops_wT, dops_wTn, dops_wF, dops_wFn, dops_wU, run_condT, run_condF, alt2_int, altB_bool, altI_int, altBB_bool, v_min, v_max, v_not, v_neg, optEv_none, optEv_some, isSome'_none, isSome'_some, pExt0, pExt1, pExt2, Bool.false_and, Bool.true_and, Bool.not_true, Bool.not_false, cond_true, cond_false, dops_nil, dops_none, xval_call, v_mov, v_bin, v_len, v_ext, v_idxA, v_ld, v_st, v_app, v_appN, v_cvs, v_bs1, pBs1, v_slc, v_conv, v_fld, v_fldA, v_new, v_box, v_mks, v_copy, v_isnil, v_nilck, v_pick, ev, evs_nil, evs_cons, fr_get_cons, fr_put_nil, fr_put_cons, fr_put_some, fr_put_none, fr_keep_nil, fr_keep_cons, fr_has_nil, fr_has_cons, Option.bind_some, Option.map_some, xbin, ibin, xresult_eq, xress_nil, xress_tmp, resV, ex_some, if_true, if_false, ite_true, ite_false, reduceIte, reduceCtorEq, Nat.reduceEqDiff, Nat.reduceLT, Nat.reduceLeDiff, Int.reduceLT, Int.reduceLE, Nat.zero_add, Nat.reduceAdd, Bool.false_eq_true, decide_eq_true_eq, decide_eq_false_iff_not, true_implies, false_implies, and_true, true_and, u1, u2, u3, u4, b1, b2] at h ⊢
  exact h
theorem ExprNames_ok (i : Int) : Got (xc Try.prog tab 7 [.int .i64 i] ⟨Try.prog.globals.size, .leaf⟩) fun v H' => v = .bool true := by
  have h0 := Int.emod_nonneg i (by omega : (3 : Int) ≠ 0)
  have h1 := Int.emod_lt_of_pos i (by omega : (0 : Int) < 3)
  rcases (by omega : i % 3 = 0 ∨ i % 3 = 1 ∨ i % 3 = 2) with h | h | h
  · exact names_mod i 0 (by omega) _ _ (okT_got names0)
  · exact names_mod i 1 (by omega) _ _ (okT_got names1)
  · exact names_mod i 2 (by omega) _ _ (okT_got names2)
end Go.Proofs.Ytejedmocjdcdgaa.D
