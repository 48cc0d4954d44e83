/- What functions that the law reaches compute, on a heap of the run's own: the conditions stand in each theorem. -/
import Derived.Test.YtbkmkelohlmblaaFvM
set_option linter.unusedSimpArgs false
set_option linter.unusedVariables false
namespace Go.Proofs.Ytbkmkelohlmblaa.D
open Go Go.Det

/-! ### the division of 64 more bits -/
theorem lz_xc (b : Nat) (hb : b < 18446744073709551616) (H : AH) : xc Try.prog tab 19 [.int .u64 (b : Int)] H = some (.int .i64 (64 - (bl b : Int)), H) := by
  refine got_xc (got_call (res := [.tmp 2]) rfl ?_)
  have l := len64_xc b hb H
  have := bl_mono (k := 64) (x := b) hb
  have w := wrI (64 - (bl b : Int)) (by omega) (by omega)
  simp only [ofArgs, run_seq, run_block, run_ops, run_skip, run_exit, run_ret, thenQ_normal, thenQ_exit, thenQ_ret, blockQ_normal, blockQ_exit, blockQ_ret, retQ_ret, retQ_normal, ops_nil, ops_none, got_some, ops_wT, ops_wTn, ops_wF, ops_wFn, ops_wU, dops_wT, dops_wTn, dops_wF, dops_wFn, dops_wU, run_condT, run_condF, alt2_int, altB_bool, altI_int, altBB_bool, v_min, v_max, v_not, v_neg, optEv_none, optEv_some, isSome'_none, isSome'_some, pExt0, pExt1, pExt2, Bool.false_and, Bool.true_and, Bool.not_true, Bool.not_false, cond_true, cond_false, dops_nil, dops_none, xval_call, v_mov, v_bin, v_len, v_ext, v_idxA, v_ld, v_st, v_app, v_appN, v_cvs, v_bs1, pBs1, v_slc, v_conv, v_fld, v_fldA, v_new, v_box, v_mks, v_copy, v_isnil, v_nilck, v_pick, ev, evs_nil, evs_cons, fr_get_cons, fr_put_nil, fr_put_cons, fr_put_some, fr_put_none, fr_keep_nil, fr_keep_cons, fr_has_nil, fr_has_cons, Option.bind_some, Option.map_some, xbin, ibin, xresult_eq, xress_nil, xress_tmp, resV, ex_some, if_true, if_false, ite_true, ite_false, reduceIte, reduceCtorEq, Nat.reduceEqDiff, Nat.reduceLT, Nat.reduceLeDiff, Int.reduceLT, Int.reduceLE, Nat.zero_add, Nat.reduceAdd, Bool.false_eq_true, decide_eq_true_eq, decide_eq_false_iff_not, true_implies, false_implies, and_true, true_and, l, w]
theorem div_split (X b K : Nat) (hb : 0 < b) : X * K / b = X / b * K + X % b * K / b ∧ X * K % b = X % b * K % b := by
  have h := Nat.div_add_mod X b
  have e : X * K = X % b * K + b * (X / b * K) := by
    rw [← Nat.mul_assoc, ← Nat.add_mul, Nat.add_comm, h]
  generalize X / b = q at *
  generalize X % b = r at *
  rw [e]
  exact ⟨by rw [Nat.add_mul_div_left _ _ hb, Nat.add_comm], by rw [Nat.add_mul_mod_self_left]⟩
theorem tdivN (m n : Nat) : ((m : Nat) : Int).tdiv (n : Int) = ((m / n : Nat) : Int) := rfl
theorem wrUm (x : Nat) : IntKind.u64.wrap (x : Int) = ((x % 18446744073709551616 : Nat) : Int) := by rw [wrU64]; omega
theorem wrMulM (x y z : Nat) (h : x * y = z) : IntKind.u64.wrap ((x : Int) * (y : Int)) = ((z % 18446744073709551616 : Nat) : Int) := by rw [← Int.natCast_mul, h, wrUm]
theorem wrMul (x y z : Nat) (h : x * y = z) (hz : z < 18446744073709551616) : IntKind.u64.wrap ((x : Int) * (y : Int)) = (z : Int) := by rw [← Int.natCast_mul, h, wrU _ hz]
theorem wrAdd (x y z : Nat) (h : x + y = z) (hz : z < 18446744073709551616) : IntKind.u64.wrap ((x : Int) + (y : Int)) = (z : Int) := by rw [← Int.natCast_add, h, wrU _ hz]
theorem wrSub (x y z : Nat) (h : x = y + z) (hz : z < 18446744073709551616) : IntKind.u64.wrap ((x : Int) - (y : Int)) = (z : Int) := by rw [wrU64]; omega
theorem wrSubM (x y z : Nat) (h : x = y + z) (hz : z < 18446744073709551616) : IntKind.u64.wrap (((x % 18446744073709551616 : Nat) : Int) - ((y % 18446744073709551616 : Nat) : Int)) = (z : Int) := by rw [wrU64]; subst h; omega
theorem wrNegM (y z w : Nat) (h : y + z = w * 18446744073709551616) (hz : z < 18446744073709551616) : IntKind.u64.wrap (((0 : Nat) : Int) - ((y % 18446744073709551616 : Nat) : Int)) = (z : Int) := by rw [wrU64]; omega
theorem shr32 (x y : Nat) (h : x / 4294967296 = y) : ((x : Nat) : Int).fdiv 4294967296 = (y : Int) := by
  have p32 : (2 : Int) ^ 32 = 4294967296 := rfl
  rw [← p32, shrN, Nat.shiftRight_eq_div_pow, ← h]
theorem and32 (x : Nat) (h : x * 4294967296 < 18446744073709551616) : IntKind.u64.wrap ((BitVec.ofInt IntKind.u64.bits ((x * 4294967296 : Nat) : Int) &&& BitVec.ofInt IntKind.u64.bits 4294967295).toNat : Int) = 0 := by
  have f3 := u_and (x * 4294967296) 4294967295 h (by omega)
  have t3 : (x * 4294967296) &&& 4294967295 = 0 := by
    have := and_pow (x * 4294967296) 32
    rw [show (2 : Nat) ^ 32 = 4294967296 from rfl, Nat.mul_mod_left] at this
    exact this
  rw [t3] at f3
  exact f3
theorem or32 (hi lo a : Nat) (hl : lo < 4294967296) (ha : a < 18446744073709551616) (h : 4294967296 * hi + lo = a) : IntKind.u64.wrap ((BitVec.ofInt IntKind.u64.bits ((4294967296 * hi : Nat) : Int) ||| BitVec.ofInt IntKind.u64.bits (lo : Int)).toNat : Int) = (a : Int) := by
  have f7 := u_or (4294967296 * hi) lo (by omega) (by omega)
  have := or_add hi lo 32 (by omega)
  rw [show (2 : Nat) ^ 32 = 4294967296 from rfl] at this
  rw [this, h] at f7
  exact f7
theorem gt0 (x : Nat) : ¬ (0 : Int) > (x : Int) := Int.not_lt.mpr (Int.natCast_nonneg _)

set_option maxHeartbeats 4000000 in
theorem div64_xc (a b hi lo : Nat) (a1 : 2147483648 ≤ a) (a2 : a < 4294967296) (b1 : 2147483648 ≤ b) (b2 : b < 4294967296) (e1 : hi = a / 1073741824) (e2 : lo = a % 1073741824 * 17179869184) (H : AH) :
    xc Try.prog tab 14 [.int .u64 (hi : Int), .int .u64 (lo : Int), .int .u64 (b : Int)] H = some (.tuple #[.int .u64 ((a * 17179869184 / b : Nat) : Int), .int .u64 ((a * 17179869184 % b : Nat) : Int)], H) := by
  refine got_xc (got_call (res := [.tmp 6, .tmp 7]) rfl ?_)
  generalize hT : ((.seq (.ops [⟨some 44, .mov (.tmp 0), none⟩, ⟨some 45, .mov (.tmp 8), none⟩, ⟨some 46, .bin .shl (.tmp 44) (.tmp 45), none⟩, ⟨some 47, .mov (.tmp 1), none⟩, ⟨some 48, .mov (.tmp 8), none⟩, ⟨some 49, .bin .sub (.const (.int .u64 64)) (.tmp 48), none⟩, ⟨some 50, .bin .shr (.tmp 47) (.tmp 49), none⟩, ⟨some 51, .bin .or (.tmp 46) (.tmp 50), none⟩, ⟨some 11, .mov (.tmp 51), none⟩] [1, 2, 8, 9, 10, 11]) (.seq (.ops [⟨some 52, .mov (.tmp 1), none⟩, ⟨some 53, .mov (.tmp 8), none⟩, ⟨some 54, .bin .shl (.tmp 52) (.tmp 53), none⟩, ⟨some 12, .mov (.tmp 54), none⟩] [2, 8, 9, 10, 11, 12]) (.seq (.ops [⟨some 55, .mov (.tmp 12), none⟩, ⟨some 56, .bin .shr (.tmp 55) (.const (.int .u64 32)), none⟩, ⟨some 13, .mov (.tmp 56), none⟩] [2, 8, 9, 10, 11, 12, 13]) (.seq (.ops [⟨some 57, .mov (.tmp 12), none⟩, ⟨some 58, .bin .and (.tmp 57) (.const (.int .u64 4294967295)), none⟩, ⟨some 14, .mov (.tmp 58), none⟩] [2, 8, 9, 10, 11, 13, 14]) (.seq (.ops [⟨some 59, .mov (.tmp 11), none⟩, ⟨some 60, .mov (.tmp 9), none⟩, ⟨some 61, .bin .quo (.tmp 59) (.tmp 60), none⟩, ⟨some 15, .mov (.tmp 61), none⟩] [2, 8, 9, 10, 11, 13, 14, 15]) (.seq (.ops [⟨some 62, .mov (.tmp 11), none⟩, ⟨some 63, .mov (.tmp 15), none⟩, ⟨some 64, .mov (.tmp 9), none⟩, ⟨some 65, .bin .mul (.tmp 63) (.tmp 64), none⟩, ⟨some 66, .bin .sub (.tmp 62) (.tmp 65), none⟩, ⟨some 16, .mov (.tmp 66), none⟩] [2, 8, 9, 10, 11, 13, 14, 15, 16]) (.seq (.block 0 (.loop xbits_Div64_l0)) (.seq (.ops [⟨some 86, .mov (.tmp 11), none⟩, ⟨some 87, .bin .mul (.tmp 86) (.const (.int .u64 4294967296)), none⟩, ⟨some 88, .mov (.tmp 13), none⟩, ⟨some 89, .bin .add (.tmp 87) (.tmp 88), none⟩, ⟨some 90, .mov (.tmp 15), none⟩, ⟨some 91, .mov (.tmp 2), none⟩, ⟨some 92, .bin .mul (.tmp 90) (.tmp 91), none⟩, ⟨some 93, .bin .sub (.tmp 89) (.tmp 92), none⟩, ⟨some 17, .mov (.tmp 93), none⟩] [2, 8, 9, 10, 14, 15, 17]) (.seq (.ops [⟨some 94, .mov (.tmp 17), none⟩, ⟨some 95, .mov (.tmp 9), none⟩, ⟨some 96, .bin .quo (.tmp 94) (.tmp 95), none⟩, ⟨some 18, .mov (.tmp 96), none⟩] [2, 8, 9, 10, 14, 15, 17, 18]) (.seq (.ops [⟨some 97, .mov (.tmp 17), none⟩, ⟨some 98, .mov (.tmp 18), none⟩, ⟨some 99, .mov (.tmp 9), none⟩, ⟨some 100, .bin .mul (.tmp 98) (.tmp 99), none⟩, ⟨some 101, .bin .sub (.tmp 97) (.tmp 100), none⟩, ⟨some 16, .mov (.tmp 101), none⟩] [2, 8, 9, 10, 14, 15, 16, 17, 18]) (.seq (.block 2 (.loop xbits_Div64_l1)) (.seq (.ops [⟨some 121, .mov (.tmp 15), none⟩, ⟨some 122, .bin .mul (.tmp 121) (.const (.int .u64 4294967296)), none⟩, ⟨some 123, .mov (.tmp 18), none⟩, ⟨some 124, .bin .add (.tmp 122) (.tmp 123), none⟩, ⟨some 125, .mov (.tmp 17), none⟩, ⟨some 126, .bin .mul (.tmp 125) (.const (.int .u64 4294967296)), none⟩, ⟨some 127, .mov (.tmp 14), none⟩, ⟨some 128, .bin .add (.tmp 126) (.tmp 127), none⟩, ⟨some 129, .mov (.tmp 18), none⟩, ⟨some 130, .mov (.tmp 2), none⟩, ⟨some 131, .bin .mul (.tmp 129) (.tmp 130), none⟩, ⟨some 132, .bin .sub (.tmp 128) (.tmp 131), none⟩, ⟨some 133, .mov (.tmp 8), none⟩, ⟨some 134, .bin .shr (.tmp 132) (.tmp 133), none⟩, ⟨some 6, .mov (.tmp 124), none⟩, ⟨some 7, .mov (.tmp 134), none⟩] [6, 7]) .ret)))))))))))) : XCode) = T
  have hb : bl b = 32 := bl_eq b 31 (by omega) (by omega)
  have lz := lz_xc b (by omega) H
  rw [hb] at lz
  have c0 : ((b : Int) == 0) = false := by simp; omega
  have c1 : ¬ (b : Int) ≤ (hi : Int) := by omega
  have c2 : ((hi : Int) == 0) = false := by simp; omega
  have z0 : (64 : Int) - (((32 : Nat) : Int)) = 32 := rfl
  have cv : pConv IntKind.u64 (Value.int IntKind.i64 32) H = some (Value.int IntKind.u64 32, H) := rfl
  have m32 : min (Int.toNat 32) IntKind.u64.bits = 32 := rfl
  have n32 : ¬ (32 : Int) < 0 := by decide
  have p32 : (2 : Int) ^ 32 = 4294967296 := rfl
  have f1 : IntKind.u64.wrap ((b : Int) * 4294967296) = ((b * 4294967296 : Nat) : Int) := wrMul b 4294967296 _ rfl (by omega)
  have f2 := shr32 (b * 4294967296) b (Nat.mul_div_cancel _ (by omega))
  have f3 := and32 b (by omega)
  simp only [ofArgs, run_seq, run_block, run_ops, run_skip, run_exit, run_ret, thenQ_normal, thenQ_exit, thenQ_ret, blockQ_normal, blockQ_exit, blockQ_ret, retQ_ret, retQ_normal, ops_nil, ops_none, got_some, ops_wT, ops_wTn, ops_wF, ops_wFn, ops_wU, dops_wT, dops_wTn, dops_wF, dops_wFn, dops_wU, run_condT, run_condF, alt2_int, altB_bool, altI_int, altBB_bool, v_min, v_max, v_not, v_neg, optEv_none, optEv_some, isSome'_none, isSome'_some, pExt0, pExt1, pExt2, Bool.false_and, Bool.true_and, Bool.not_true, Bool.not_false, cond_true, cond_false, dops_nil, dops_none, xval_call, v_mov, v_bin, v_len, v_ext, v_idxA, v_ld, v_st, v_app, v_appN, v_cvs, v_bs1, pBs1, v_slc, v_conv, v_fld, v_fldA, v_new, v_box, v_mks, v_copy, v_isnil, v_nilck, v_pick, ev, evs_nil, evs_cons, fr_get_cons, fr_put_nil, fr_put_cons, fr_put_some, fr_put_none, fr_keep_nil, fr_keep_cons, fr_has_nil, fr_has_cons, Option.bind_some, Option.map_some, xbin, ibin, xresult_eq, xress_nil, xress_tmp, resV, ex_some, if_true, if_false, ite_true, ite_false, reduceIte, reduceCtorEq, Nat.reduceEqDiff, Nat.reduceLT, Nat.reduceLeDiff, Int.reduceLT, Int.reduceLE, Nat.zero_add, Nat.reduceAdd, Bool.false_eq_true, decide_eq_true_eq, decide_eq_false_iff_not, true_implies, false_implies, and_true, true_and, lz, c0, c1, c2, z0, cv, decide_false, decide_true, m32, n32, p32, f1, f2, f3]
  subst hT
  generalize hT : ((.seq (.block 0 (.loop xbits_Div64_l0)) (.seq (.ops [⟨some 86, .mov (.tmp 11), none⟩, ⟨some 87, .bin .mul (.tmp 86) (.const (.int .u64 4294967296)), none⟩, ⟨some 88, .mov (.tmp 13), none⟩, ⟨some 89, .bin .add (.tmp 87) (.tmp 88), none⟩, ⟨some 90, .mov (.tmp 15), none⟩, ⟨some 91, .mov (.tmp 2), none⟩, ⟨some 92, .bin .mul (.tmp 90) (.tmp 91), none⟩, ⟨some 93, .bin .sub (.tmp 89) (.tmp 92), none⟩, ⟨some 17, .mov (.tmp 93), none⟩] [2, 8, 9, 10, 14, 15, 17]) (.seq (.ops [⟨some 94, .mov (.tmp 17), none⟩, ⟨some 95, .mov (.tmp 9), none⟩, ⟨some 96, .bin .quo (.tmp 94) (.tmp 95), none⟩, ⟨some 18, .mov (.tmp 96), none⟩] [2, 8, 9, 10, 14, 15, 17, 18]) (.seq (.ops [⟨some 97, .mov (.tmp 17), none⟩, ⟨some 98, .mov (.tmp 18), none⟩, ⟨some 99, .mov (.tmp 9), none⟩, ⟨some 100, .bin .mul (.tmp 98) (.tmp 99), none⟩, ⟨some 101, .bin .sub (.tmp 97) (.tmp 100), none⟩, ⟨some 16, .mov (.tmp 101), none⟩] [2, 8, 9, 10, 14, 15, 16, 17, 18]) (.seq (.block 2 (.loop xbits_Div64_l1)) (.seq (.ops [⟨some 121, .mov (.tmp 15), none⟩, ⟨some 122, .bin .mul (.tmp 121) (.const (.int .u64 4294967296)), none⟩, ⟨some 123, .mov (.tmp 18), none⟩, ⟨some 124, .bin .add (.tmp 122) (.tmp 123), none⟩, ⟨some 125, .mov (.tmp 17), none⟩, ⟨some 126, .bin .mul (.tmp 125) (.const (.int .u64 4294967296)), none⟩, ⟨some 127, .mov (.tmp 14), none⟩, ⟨some 128, .bin .add (.tmp 126) (.tmp 127), none⟩, ⟨some 129, .mov (.tmp 18), none⟩, ⟨some 130, .mov (.tmp 2), none⟩, ⟨some 131, .bin .mul (.tmp 129) (.tmp 130), none⟩, ⟨some 132, .bin .sub (.tmp 128) (.tmp 131), none⟩, ⟨some 133, .mov (.tmp 8), none⟩, ⟨some 134, .bin .shr (.tmp 132) (.tmp 133), none⟩, ⟨some 6, .mov (.tmp 124), none⟩, ⟨some 7, .mov (.tmp 134), none⟩] [6, 7]) .ret)))))) : XCode) = T
  have f4 : IntKind.u64.wrap ((hi : Int) * 4294967296) = ((4294967296 * hi : Nat) : Int) := wrMul hi 4294967296 _ (Nat.mul_comm _ _) (by omega)
  have f5 : IntKind.u64.wrap ((64 : Int) - 32) = 32 := rfl
  have f6 := shr32 lo _ rfl
  have f7 := or32 hi (lo / 4294967296) (4 * a) (by omega) (by omega) (by omega)
  have f8 : IntKind.u64.wrap ((lo : Int) * 4294967296) = 0 := by rw [wrU64]; omega
  have f9 : (0 : Int).fdiv 4294967296 = 0 := rfl
  have f10 : IntKind.u64.wrap ((BitVec.ofInt IntKind.u64.bits 0 &&& BitVec.ofInt IntKind.u64.bits 4294967295).toNat : Int) = 0 := rfl
  have nb : ¬ (b : Int) = 0 := by omega
  have hd := Nat.div_add_mod (4 * a) b
  have hl := Nat.mod_lt (4 * a) (by omega : b > 0)
  have sp := div_split (4 * a) b 4294967296 (by omega)
  have sa : 4 * a * 4294967296 = a * 17179869184 := by omega
  rw [sa] at sp
  have f11 := tdivN (4 * a) b
  have q8 : 4 * a / b < 9 := by rw [Nat.div_lt_iff_lt_mul (by omega)]; omega
  generalize 4 * a / b = q1 at hd sp f11 q8
  generalize 4 * a % b = r1 at hd sp hl
  have f12 := wrU q1 (by omega)
  have hP : q1 * b < 36 * 4294967296 := by have := Nat.mul_lt_mul'' q8 b2; omega
  rw [Nat.mul_comm] at hd
  have f13 := wrMul q1 b _ rfl (by omega)
  have f14 := wrSub (4 * a) (q1 * b) r1 hd.symm (by omega)
  simp only [ofArgs, run_seq, run_block, run_ops, run_skip, run_exit, run_ret, thenQ_normal, thenQ_exit, thenQ_ret, blockQ_normal, blockQ_exit, blockQ_ret, retQ_ret, retQ_normal, ops_nil, ops_none, got_some, ops_wT, ops_wTn, ops_wF, ops_wFn, ops_wU, dops_wT, dops_wTn, dops_wF, dops_wFn, dops_wU, run_condT, run_condF, alt2_int, altB_bool, altI_int, altBB_bool, v_min, v_max, v_not, v_neg, optEv_none, optEv_some, isSome'_none, isSome'_some, pExt0, pExt1, pExt2, Bool.false_and, Bool.true_and, Bool.not_true, Bool.not_false, cond_true, cond_false, dops_nil, dops_none, xval_call, v_mov, v_bin, v_len, v_ext, v_idxA, v_ld, v_st, v_app, v_appN, v_cvs, v_bs1, pBs1, v_slc, v_conv, v_fld, v_fldA, v_new, v_box, v_mks, v_copy, v_isnil, v_nilck, v_pick, ev, evs_nil, evs_cons, fr_get_cons, fr_put_nil, fr_put_cons, fr_put_some, fr_put_none, fr_keep_nil, fr_keep_cons, fr_has_nil, fr_has_cons, Option.bind_some, Option.map_some, xbin, ibin, xresult_eq, xress_nil, xress_tmp, resV, ex_some, if_true, if_false, ite_true, ite_false, reduceIte, reduceCtorEq, Nat.reduceEqDiff, Nat.reduceLT, Nat.reduceLeDiff, Int.reduceLT, Int.reduceLE, Nat.zero_add, Nat.reduceAdd, Bool.false_eq_true, decide_eq_true_eq, decide_eq_false_iff_not, true_implies, false_implies, and_true, true_and, decide_false, decide_true, m32, n32, p32, f4, f5, f6, f7, f8, f9, f10, nb, f11, f12, f13, f14]
  subst hT
  generalize hT : ((.seq (.ops [⟨some 86, .mov (.tmp 11), none⟩, ⟨some 87, .bin .mul (.tmp 86) (.const (.int .u64 4294967296)), none⟩, ⟨some 88, .mov (.tmp 13), none⟩, ⟨some 89, .bin .add (.tmp 87) (.tmp 88), none⟩, ⟨some 90, .mov (.tmp 15), none⟩, ⟨some 91, .mov (.tmp 2), none⟩, ⟨some 92, .bin .mul (.tmp 90) (.tmp 91), none⟩, ⟨some 93, .bin .sub (.tmp 89) (.tmp 92), none⟩, ⟨some 17, .mov (.tmp 93), none⟩] [2, 8, 9, 10, 14, 15, 17]) (.seq (.ops [⟨some 94, .mov (.tmp 17), none⟩, ⟨some 95, .mov (.tmp 9), none⟩, ⟨some 96, .bin .quo (.tmp 94) (.tmp 95), none⟩, ⟨some 18, .mov (.tmp 96), none⟩] [2, 8, 9, 10, 14, 15, 17, 18]) (.seq (.ops [⟨some 97, .mov (.tmp 17), none⟩, ⟨some 98, .mov (.tmp 18), none⟩, ⟨some 99, .mov (.tmp 9), none⟩, ⟨some 100, .bin .mul (.tmp 98) (.tmp 99), none⟩, ⟨some 101, .bin .sub (.tmp 97) (.tmp 100), none⟩, ⟨some 16, .mov (.tmp 101), none⟩] [2, 8, 9, 10, 14, 15, 16, 17, 18]) (.seq (.block 2 (.loop xbits_Div64_l1)) (.seq (.ops [⟨some 121, .mov (.tmp 15), none⟩, ⟨some 122, .bin .mul (.tmp 121) (.const (.int .u64 4294967296)), none⟩, ⟨some 123, .mov (.tmp 18), none⟩, ⟨some 124, .bin .add (.tmp 122) (.tmp 123), none⟩, ⟨some 125, .mov (.tmp 17), none⟩, ⟨some 126, .bin .mul (.tmp 125) (.const (.int .u64 4294967296)), none⟩, ⟨some 127, .mov (.tmp 14), none⟩, ⟨some 128, .bin .add (.tmp 126) (.tmp 127), none⟩, ⟨some 129, .mov (.tmp 18), none⟩, ⟨some 130, .mov (.tmp 2), none⟩, ⟨some 131, .bin .mul (.tmp 129) (.tmp 130), none⟩, ⟨some 132, .bin .sub (.tmp 128) (.tmp 131), none⟩, ⟨some 133, .mov (.tmp 8), none⟩, ⟨some 134, .bin .shr (.tmp 132) (.tmp 133), none⟩, ⟨some 6, .mov (.tmp 124), none⟩, ⟨some 7, .mov (.tmp 134), none⟩] [6, 7]) .ret))))) : XCode) = T
  -- no step of the first loop
  have g1 : ¬ (q1 : Int) ≥ 4294967296 := by omega
  have g2 : IntKind.u64.wrap ((q1 : Int) * 0) = 0 := by rw [Int.mul_zero]; rfl
  have g3 : IntKind.u64.wrap ((4294967296 : Int) * (r1 : Int)) = ((r1 * 4294967296 : Nat) : Int) := wrMul 4294967296 r1 _ (Nat.mul_comm _ _) (by omega)
  have g4 : IntKind.u64.wrap (((r1 * 4294967296 : Nat) : Int) + 0) = ((r1 * 4294967296 : Nat) : Int) := wrAdd _ 0 _ (Nat.add_zero _) (by omega)
  have g5 := gt0 (r1 * 4294967296)
  simp only [ofArgs, run_seq, run_block, run_ops, run_skip, run_exit, run_ret, thenQ_normal, thenQ_exit, thenQ_ret, blockQ_normal, blockQ_exit, blockQ_ret, retQ_ret, retQ_normal, ops_nil, ops_none, got_some, ops_wT, ops_wTn, ops_wF, ops_wFn, ops_wU, dops_wT, dops_wTn, dops_wF, dops_wFn, dops_wU, run_condT, run_condF, alt2_int, altB_bool, altI_int, altBB_bool, v_min, v_max, v_not, v_neg, optEv_none, optEv_some, isSome'_none, isSome'_some, pExt0, pExt1, pExt2, Bool.false_and, Bool.true_and, Bool.not_true, Bool.not_false, cond_true, cond_false, dops_nil, dops_none, xval_call, v_mov, v_bin, v_len, v_ext, v_idxA, v_ld, v_st, v_app, v_appN, v_cvs, v_bs1, pBs1, v_slc, v_conv, v_fld, v_fldA, v_new, v_box, v_mks, v_copy, v_isnil, v_nilck, v_pick, ev, evs_nil, evs_cons, fr_get_cons, fr_put_nil, fr_put_cons, fr_put_some, fr_put_none, fr_keep_nil, fr_keep_cons, fr_has_nil, fr_has_cons, Option.bind_some, Option.map_some, xbin, ibin, xresult_eq, xress_nil, xress_tmp, resV, ex_some, if_true, if_false, ite_true, ite_false, reduceIte, reduceCtorEq, Nat.reduceEqDiff, Nat.reduceLT, Nat.reduceLeDiff, Int.reduceLT, Int.reduceLE, Nat.zero_add, Nat.reduceAdd, Bool.false_eq_true, decide_eq_true_eq, decide_eq_false_iff_not, true_implies, false_implies, and_true, true_and]
  rw [run_loop]
  generalize hL : XCode.loop xbits_Div64_l0 = L
  simp only [xbits_Div64_l0, ofArgs, run_seq, run_block, run_ops, run_skip, run_exit, run_ret, thenQ_normal, thenQ_exit, thenQ_ret, blockQ_normal, blockQ_exit, blockQ_ret, retQ_ret, retQ_normal, ops_nil, ops_none, got_some, ops_wT, ops_wTn, ops_wF, ops_wFn, ops_wU, dops_wT, dops_wTn, dops_wF, dops_wFn, dops_wU, run_condT, run_condF, alt2_int, altB_bool, altI_int, altBB_bool, v_min, v_max, v_not, v_neg, optEv_none, optEv_some, isSome'_none, isSome'_some, pExt0, pExt1, pExt2, Bool.false_and, Bool.true_and, Bool.not_true, Bool.not_false, cond_true, cond_false, dops_nil, dops_none, xval_call, v_mov, v_bin, v_len, v_ext, v_idxA, v_ld, v_st, v_app, v_appN, v_cvs, v_bs1, pBs1, v_slc, v_conv, v_fld, v_fldA, v_new, v_box, v_mks, v_copy, v_isnil, v_nilck, v_pick, ev, evs_nil, evs_cons, fr_get_cons, fr_put_nil, fr_put_cons, fr_put_some, fr_put_none, fr_keep_nil, fr_keep_cons, fr_has_nil, fr_has_cons, Option.bind_some, Option.map_some, xbin, ibin, xresult_eq, xress_nil, xress_tmp, resV, ex_some, if_true, if_false, ite_true, ite_false, reduceIte, reduceCtorEq, Nat.reduceEqDiff, Nat.reduceLT, Nat.reduceLeDiff, Int.reduceLT, Int.reduceLE, Nat.zero_add, Nat.reduceAdd, Bool.false_eq_true, decide_eq_true_eq, decide_eq_false_iff_not, true_implies, false_implies, and_true, true_and, decide_false, g1, g2, g3, g4, g5]
  clear hL L
  subst hT
  generalize hT : ((.seq (.block 2 (.loop xbits_Div64_l1)) (.seq (.ops [⟨some 121, .mov (.tmp 15), none⟩, ⟨some 122, .bin .mul (.tmp 121) (.const (.int .u64 4294967296)), none⟩, ⟨some 123, .mov (.tmp 18), none⟩, ⟨some 124, .bin .add (.tmp 122) (.tmp 123), none⟩, ⟨some 125, .mov (.tmp 17), none⟩, ⟨some 126, .bin .mul (.tmp 125) (.const (.int .u64 4294967296)), none⟩, ⟨some 127, .mov (.tmp 14), none⟩, ⟨some 128, .bin .add (.tmp 126) (.tmp 127), none⟩, ⟨some 129, .mov (.tmp 18), none⟩, ⟨some 130, .mov (.tmp 2), none⟩, ⟨some 131, .bin .mul (.tmp 129) (.tmp 130), none⟩, ⟨some 132, .bin .sub (.tmp 128) (.tmp 131), none⟩, ⟨some 133, .mov (.tmp 8), none⟩, ⟨some 134, .bin .shr (.tmp 132) (.tmp 133), none⟩, ⟨some 6, .mov (.tmp 124), none⟩, ⟨some 7, .mov (.tmp 134), none⟩] [6, 7]) .ret)) : XCode) = T
  -- between
  have h1 : IntKind.u64.wrap (((4 * a : Nat) : Int) * 4294967296) = ((4 * a * 4294967296 % 18446744073709551616 : Nat) : Int) := wrMulM (4 * a) 4294967296 _ rfl
  have h2 : IntKind.u64.wrap (((4 * a * 4294967296 % 18446744073709551616 : Nat) : Int) + 0) = ((4 * a * 4294967296 % 18446744073709551616 : Nat) : Int) := wrAdd _ 0 _ (Nat.add_zero _) (Nat.mod_lt _ (by decide))
  have h3 := wrMulM q1 (b * 4294967296) (q1 * b * 4294967296) (by rw [Nat.mul_assoc])
  have h4 := wrSubM (4 * a * 4294967296) (q1 * b * 4294967296) (r1 * 4294967296) (by rw [← hd, Nat.add_mul]) (by omega)
  have h5 := tdivN (r1 * 4294967296) b
  have hd2 := Nat.div_add_mod (r1 * 4294967296) b
  have hl2 := Nat.mod_lt (r1 * 4294967296) (by omega : b > 0)
  have q82 : r1 * 4294967296 / b < 4294967296 := by
    rw [Nat.div_lt_iff_lt_mul (by omega), Nat.mul_comm 4294967296 b]
    exact Nat.mul_lt_mul_of_pos_right hl (by omega)
  rw [sp.1, sp.2]
  clear sp sa
  generalize r1 * 4294967296 / b = q0 at hd2 h5 q82
  generalize hr0 : r1 * 4294967296 % b = r0 at hd2 hl2
  rw [Nat.mul_comm] at hd2
  clear hr0
  have h6 := wrU q0 (by omega)
  have hq0 : q0 * b ≤ r1 * 4294967296 := by rw [← hd2]; exact Nat.le_add_right _ _
  have h7 := wrMul q0 b _ rfl (by omega)
  have h8 := wrSub (r1 * 4294967296) (q0 * b) r0 hd2.symm (by omega)
  simp only [ofArgs, run_seq, run_block, run_ops, run_skip, run_exit, run_ret, thenQ_normal, thenQ_exit, thenQ_ret, blockQ_normal, blockQ_exit, blockQ_ret, retQ_ret, retQ_normal, ops_nil, ops_none, got_some, ops_wT, ops_wTn, ops_wF, ops_wFn, ops_wU, dops_wT, dops_wTn, dops_wF, dops_wFn, dops_wU, run_condT, run_condF, alt2_int, altB_bool, altI_int, altBB_bool, v_min, v_max, v_not, v_neg, optEv_none, optEv_some, isSome'_none, isSome'_some, pExt0, pExt1, pExt2, Bool.false_and, Bool.true_and, Bool.not_true, Bool.not_false, cond_true, cond_false, dops_nil, dops_none, xval_call, v_mov, v_bin, v_len, v_ext, v_idxA, v_ld, v_st, v_app, v_appN, v_cvs, v_bs1, pBs1, v_slc, v_conv, v_fld, v_fldA, v_new, v_box, v_mks, v_copy, v_isnil, v_nilck, v_pick, ev, evs_nil, evs_cons, fr_get_cons, fr_put_nil, fr_put_cons, fr_put_some, fr_put_none, fr_keep_nil, fr_keep_cons, fr_has_nil, fr_has_cons, Option.bind_some, Option.map_some, xbin, ibin, xresult_eq, xress_nil, xress_tmp, resV, ex_some, if_true, if_false, ite_true, ite_false, reduceIte, reduceCtorEq, Nat.reduceEqDiff, Nat.reduceLT, Nat.reduceLeDiff, Int.reduceLT, Int.reduceLE, Nat.zero_add, Nat.reduceAdd, Bool.false_eq_true, decide_eq_true_eq, decide_eq_false_iff_not, true_implies, false_implies, and_true, true_and, decide_false, nb, h1, h2, h3, h4, h5, h6, h7, h8]
  subst hT
  have i1 : ¬ (q0 : Int) ≥ 4294967296 := by omega
  have i2 : IntKind.u64.wrap ((q0 : Int) * 0) = 0 := by rw [Int.mul_zero]; rfl
  have i3 : IntKind.u64.wrap ((4294967296 : Int) * (r0 : Int)) = ((r0 * 4294967296 : Nat) : Int) := wrMul 4294967296 r0 _ (Nat.mul_comm _ _) (by omega)
  have i4 : IntKind.u64.wrap (((r0 * 4294967296 : Nat) : Int) + 0) = ((r0 * 4294967296 : Nat) : Int) := wrAdd _ 0 _ (Nat.add_zero _) (by omega)
  have i5 := gt0 (r0 * 4294967296)
  -- the end
  have j1 : IntKind.u64.wrap ((q1 : Int) * 4294967296) = ((q1 * 4294967296 : Nat) : Int) := wrMul q1 4294967296 _ rfl (by omega)
  have j2 := wrAdd (q1 * 4294967296) q0 _ rfl (by omega)
  have j3 : IntKind.u64.wrap (((r1 * 4294967296 : Nat) : Int) * 4294967296) = ((r1 * 18446744073709551616 % 18446744073709551616 : Nat) : Int) := wrMulM (r1 * 4294967296) 4294967296 (r1 * 18446744073709551616) (by rw [Nat.mul_assoc])
  rw [Nat.mul_mod_left] at j3
  have k0 : ((0 : Nat) : Int) = 0 := rfl
  have j4 : IntKind.u64.wrap ((0 : Int) + 0) = 0 := rfl
  have j5 := wrMulM q0 (b * 4294967296) (q0 * b * 4294967296) (by rw [Nat.mul_assoc])
  have j6 := wrNegM (q0 * b * 4294967296) (r0 * 4294967296) r1 (by rw [← Nat.add_mul, hd2, Nat.mul_assoc]) (by omega)
  have j7 := shr32 (r0 * 4294967296) r0 (Nat.mul_div_cancel _ (by omega))
  rw [k0] at j3 j6
  simp only [ofArgs, run_seq, run_block, run_ops, run_skip, run_exit, run_ret, thenQ_normal, thenQ_exit, thenQ_ret, blockQ_normal, blockQ_exit, blockQ_ret, retQ_ret, retQ_normal, ops_nil, ops_none, got_some, ops_wT, ops_wTn, ops_wF, ops_wFn, ops_wU, dops_wT, dops_wTn, dops_wF, dops_wFn, dops_wU, run_condT, run_condF, alt2_int, altB_bool, altI_int, altBB_bool, v_min, v_max, v_not, v_neg, optEv_none, optEv_some, isSome'_none, isSome'_some, pExt0, pExt1, pExt2, Bool.false_and, Bool.true_and, Bool.not_true, Bool.not_false, cond_true, cond_false, dops_nil, dops_none, xval_call, v_mov, v_bin, v_len, v_ext, v_idxA, v_ld, v_st, v_app, v_appN, v_cvs, v_bs1, pBs1, v_slc, v_conv, v_fld, v_fldA, v_new, v_box, v_mks, v_copy, v_isnil, v_nilck, v_pick, ev, evs_nil, evs_cons, fr_get_cons, fr_put_nil, fr_put_cons, fr_put_some, fr_put_none, fr_keep_nil, fr_keep_cons, fr_has_nil, fr_has_cons, Option.bind_some, Option.map_some, xbin, ibin, xresult_eq, xress_nil, xress_tmp, resV, ex_some, if_true, if_false, ite_true, ite_false, reduceIte, reduceCtorEq, Nat.reduceEqDiff, Nat.reduceLT, Nat.reduceLeDiff, Int.reduceLT, Int.reduceLE, Nat.zero_add, Nat.reduceAdd, Bool.false_eq_true, decide_eq_true_eq, decide_eq_false_iff_not, true_implies, false_implies, and_true, true_and]
  rw [run_loop]
  generalize hL1 : XCode.loop xbits_Div64_l1 = L1
  simp only [xbits_Div64_l1, ofArgs, run_seq, run_block, run_ops, run_skip, run_exit, run_ret, thenQ_normal, thenQ_exit, thenQ_ret, blockQ_normal, blockQ_exit, blockQ_ret, retQ_ret, retQ_normal, ops_nil, ops_none, got_some, ops_wT, ops_wTn, ops_wF, ops_wFn, ops_wU, dops_wT, dops_wTn, dops_wF, dops_wFn, dops_wU, run_condT, run_condF, alt2_int, altB_bool, altI_int, altBB_bool, v_min, v_max, v_not, v_neg, optEv_none, optEv_some, isSome'_none, isSome'_some, pExt0, pExt1, pExt2, Bool.false_and, Bool.true_and, Bool.not_true, Bool.not_false, cond_true, cond_false, dops_nil, dops_none, xval_call, v_mov, v_bin, v_len, v_ext, v_idxA, v_ld, v_st, v_app, v_appN, v_cvs, v_bs1, pBs1, v_slc, v_conv, v_fld, v_fldA, v_new, v_box, v_mks, v_copy, v_isnil, v_nilck, v_pick, ev, evs_nil, evs_cons, fr_get_cons, fr_put_nil, fr_put_cons, fr_put_some, fr_put_none, fr_keep_nil, fr_keep_cons, fr_has_nil, fr_has_cons, Option.bind_some, Option.map_some, xbin, ibin, xresult_eq, xress_nil, xress_tmp, resV, ex_some, if_true, if_false, ite_true, ite_false, reduceIte, reduceCtorEq, Nat.reduceEqDiff, Nat.reduceLT, Nat.reduceLeDiff, Int.reduceLT, Int.reduceLE, Nat.zero_add, Nat.reduceAdd, Bool.false_eq_true, decide_eq_true_eq, decide_eq_false_iff_not, true_implies, false_implies, and_true, true_and, decide_false, i1, i2, i3, i4, i5, j1, j2, j3, j4, j5, j6, m32, n32, p32, j7]
end Go.Proofs.Ytbkmkelohlmblaa.D
