/- What functions that the law reaches compute, on a heap of the run's own: the conditions stand in each theorem. -/
import Derived.Test.YtbkmkelohlmblaaFvA
set_option linter.unusedSimpArgs false
set_option linter.unusedVariables false
namespace Go.Proofs.Ytbkmkelohlmblaa.D
open Go Go.Det

/-! ### whole numbers of 64 bits without a sign -/
theorem wrU64 (n : Int) : IntKind.u64.wrap n = n % 18446744073709551616 := by
  show (if (false && decide (n % (2 ^ 64 : Int) ≥ (2 ^ 63 : Int))) = true then n % (2 ^ 64 : Int) - (2 ^ 64 : Int) else n % (2 ^ 64 : Int)) = _
  simp only [Bool.false_and, Bool.false_eq_true, if_false]
  rfl
theorem wrU (n : Nat) (h : n < 18446744073709551616) : IntKind.u64.wrap (n : Int) = (n : Int) := by rw [wrU64]; omega
theorem u_and (x y : Nat) (hx : x < 18446744073709551616) (hy : y < 18446744073709551616) : IntKind.u64.wrap ((BitVec.ofInt IntKind.u64.bits (x : Int) &&& BitVec.ofInt IntKind.u64.bits (y : Int)).toNat : Int) = ((x &&& y : Nat) : Int) := by
  have h : x &&& y ≤ x := Nat.and_le_left
  have h1 : (BitVec.ofInt IntKind.u64.bits (x : Int) &&& BitVec.ofInt IntKind.u64.bits (y : Int)).toNat = x &&& y := by
    show (BitVec.ofInt 64 (x : Int) &&& BitVec.ofInt 64 (y : Int)).toNat = x &&& y
    rw [BitVec.toNat_and, BitVec.ofInt_natCast, BitVec.ofInt_natCast, BitVec.toNat_ofNat, BitVec.toNat_ofNat, Nat.mod_eq_of_lt (by omega), Nat.mod_eq_of_lt (by omega)]
  rw [h1, wrU _ (by omega)]
theorem u_or (x y : Nat) (hx : x < 18446744073709551616) (hy : y < 18446744073709551616) : IntKind.u64.wrap ((BitVec.ofInt IntKind.u64.bits (x : Int) ||| BitVec.ofInt IntKind.u64.bits (y : Int)).toNat : Int) = ((x ||| y : Nat) : Int) := by
  have h : x ||| y < 2 ^ 64 := Nat.or_lt_two_pow (by omega) (by omega)
  have h1 : (BitVec.ofInt IntKind.u64.bits (x : Int) ||| BitVec.ofInt IntKind.u64.bits (y : Int)).toNat = x ||| y := by
    show (BitVec.ofInt 64 (x : Int) ||| BitVec.ofInt 64 (y : Int)).toNat = x ||| y
    rw [BitVec.toNat_or, BitVec.ofInt_natCast, BitVec.ofInt_natCast, BitVec.toNat_ofNat, BitVec.toNat_ofNat, Nat.mod_eq_of_lt (by omega), Nat.mod_eq_of_lt (by omega)]
  rw [h1, wrU _ (by omega)]
theorem and_pow (x n : Nat) : x &&& (2 ^ n - 1) = x % 2 ^ n := Nat.and_two_pow_sub_one_eq_mod x n
theorem or_add (a b i : Nat) (h : b < 2 ^ i) : 2 ^ i * a ||| b = 2 ^ i * a + b := (Nat.two_pow_add_eq_or_of_lt h a).symm
theorem andNot31 (r : Nat) (h : r < 2147483648) : IntKind.u64.wrap ((BitVec.ofInt IntKind.u64.bits ((2147483648 + r : Nat) : Int) &&& ~~~ BitVec.ofInt IntKind.u64.bits 2147483648).toNat : Int) = (r : Int) := by
  have h1 : (BitVec.ofInt IntKind.u64.bits ((2147483648 + r : Nat) : Int) &&& ~~~ BitVec.ofInt IntKind.u64.bits 2147483648) = BitVec.ofNat 64 r := by
    show (BitVec.ofInt 64 ((2147483648 + r : Nat) : Int) &&& ~~~ BitVec.ofInt 64 2147483648) = BitVec.ofNat 64 r
    rw [BitVec.ofInt_natCast]
    have e : 2147483648 + r = 2 ^ 31 * 1 ||| r := by rw [or_add _ _ _ (by omega)]
    apply BitVec.eq_of_getLsbD_eq
    intro i hi
    have e2 : BitVec.ofInt 64 2147483648 = BitVec.ofNat 64 (2 ^ 31) := by rfl
    rw [e2]
    simp only [BitVec.getLsbD_and, BitVec.getLsbD_not, BitVec.getLsbD_ofNat, hi, decide_true, Bool.true_and, e, Nat.mul_one, Nat.testBit_or, Nat.testBit_two_pow]
    by_cases h3 : 31 = i
    · subst h3
      have : r.testBit 31 = false := Nat.testBit_lt_two_pow (by omega)
      simp [this]
    · simp [h3]
  have h2 : (BitVec.ofInt IntKind.u64.bits ((2147483648 + r : Nat) : Int) &&& ~~~ BitVec.ofInt IntKind.u64.bits 2147483648).toNat = r := by
    rw [h1]; show (BitVec.ofNat 64 r).toNat = r
    rw [BitVec.toNat_ofNat, Nat.mod_eq_of_lt (by omega)]
  rw [h2, wrU _ (by omega)]

/-! ### how many bits a number has -/
def bl (x : Nat) : Nat := if x = 0 then 0 else Nat.log2 x + 1
theorem bl_lt (x : Nat) : x < 2 ^ bl x := by
  unfold bl
  split
  · subst_vars; decide
  · exact Nat.lt_log2_self
theorem bl_le (x : Nat) (h : x ≠ 0) : 2 ^ (bl x - 1) ≤ x := by
  unfold bl
  rw [if_neg h, Nat.add_sub_cancel]
  exact Nat.log2_self_le h
theorem bl_pos (x : Nat) (h : x ≠ 0) : 1 ≤ bl x := by unfold bl; rw [if_neg h]; omega
theorem bl_eq (x k : Nat) (h1 : 2 ^ k ≤ x) (h2 : x < 2 ^ (k + 1)) : bl x = k + 1 := by
  have h0 : x ≠ 0 := by have := Nat.pow_pos (n := k) (by omega : 0 < 2); omega
  unfold bl
  rw [if_neg h0, (Nat.log2_eq_iff h0).2 ⟨h1, h2⟩]
theorem bl_shr (x k : Nat) (h : 2 ^ k ≤ x) : bl x = bl (x / 2 ^ k) + k := by
  have hk := Nat.pow_pos (n := k) (by omega : 0 < 2)
  have hd : x / 2 ^ k ≠ 0 := by have := Nat.div_pos h hk; omega
  have h1 := bl_le _ hd
  have h2 := bl_lt (x / 2 ^ k)
  have hp := bl_pos _ hd
  generalize bl (x / 2 ^ k) = L at h1 h2 hp
  obtain ⟨L, rfl⟩ : ∃ m, L = m + 1 := ⟨L - 1, by omega⟩
  rw [Nat.add_sub_cancel] at h1
  have e1 : 2 ^ (L + k) ≤ x := by
    rw [Nat.pow_add]
    exact Nat.le_trans (Nat.mul_le_mul_right _ h1) (Nat.div_mul_le_self _ _)
  have e2 : x < 2 ^ (L + k + 1) := by
    have : x < (x / 2 ^ k + 1) * 2 ^ k := by
      have := Nat.lt_mul_div_succ x hk
      rw [Nat.mul_comm]; exact this
    have h3 : (x / 2 ^ k + 1) * 2 ^ k ≤ 2 ^ (L + 1) * 2 ^ k := Nat.mul_le_mul_right _ h2
    rw [← Nat.pow_add] at h3
    rw [show L + k + 1 = L + 1 + k by omega]
    omega
  rw [bl_eq x (L + k) e1 e2]; omega
theorem bl_mono {x k : Nat} (h : x < 2 ^ k) : bl x ≤ k := by
  by_cases h0 : x = 0
  · subst h0; simp [bl]
  have h1 := bl_le x h0
  have := (Nat.pow_lt_pow_iff_right (by omega : 1 < 2)).1 (Nat.lt_of_le_of_lt h1 h)
  omega

def TAB8 : ByteArray := (ByteArray.mk (List.toArray (List.append (List.append [0, 1, 2, 2, 3, 3, 3, 3, 4, 4, 4, 4, 4, 4, 4, 4, 5, 5, 5, 5, 5, 5, 5, 5, 5, 5, 5, 5, 5, 5, 5, 5, 6, 6, 6, 6, 6, 6, 6, 6, 6, 6, 6, 6, 6, 6, 6, 6, 6, 6, 6, 6, 6, 6, 6, 6, 6, 6, 6, 6, 6, 6, 6, 6] [7, 7, 7, 7, 7, 7, 7, 7, 7, 7, 7, 7, 7, 7, 7, 7, 7, 7, 7, 7, 7, 7, 7, 7, 7, 7, 7, 7, 7, 7, 7, 7, 7, 7, 7, 7, 7, 7, 7, 7, 7, 7, 7, 7, 7, 7, 7, 7, 7, 7, 7, 7, 7, 7, 7, 7, 7, 7, 7, 7, 7, 7, 7, 7]) (List.append [8, 8, 8, 8, 8, 8, 8, 8, 8, 8, 8, 8, 8, 8, 8, 8, 8, 8, 8, 8, 8, 8, 8, 8, 8, 8, 8, 8, 8, 8, 8, 8, 8, 8, 8, 8, 8, 8, 8, 8, 8, 8, 8, 8, 8, 8, 8, 8, 8, 8, 8, 8, 8, 8, 8, 8, 8, 8, 8, 8, 8, 8, 8, 8] [8, 8, 8, 8, 8, 8, 8, 8, 8, 8, 8, 8, 8, 8, 8, 8, 8, 8, 8, 8, 8, 8, 8, 8, 8, 8, 8, 8, 8, 8, 8, 8, 8, 8, 8, 8, 8, 8, 8, 8, 8, 8, 8, 8, 8, 8, 8, 8, 8, 8, 8, 8, 8, 8, 8, 8, 8, 8, 8, 8, 8, 8, 8, 8]))))
noncomputable def tab8ok (x : Nat) : Bool := match pureRun Try.prog (execOp (fun y => match y with | .const v => v | _ => .int .u8 (x : Int)) (flatOper (.index 9 (.const (.string TAB8)) (.tmp 21)) 5)) with
  | some (.value (.int .u8 n)) => n == (bl x : Int)
  | _ => false
theorem tab8_all : ∀ x < 256, tab8ok x = true := by decide +kernel
theorem v_tab8 (fr : Fr) (H : AH) (x : Nat) (hx : x < 256) (h : ev fr (.tmp 21) = some (.int .u8 (x : Int))) : xval Try.prog (xc Try.prog tab) ⟨some 22, .flat (.index 9 (.const (.string TAB8)) (.tmp 21)) 5, none⟩ fr H = some (.int .u8 (bl x : Int), H) := by
  rw [xval_op (some 22) _ fr H rfl]
  have hc : ev fr (.const (.string TAB8)) = some (.string TAB8) := rfl
  have h1 := tab8_all x hx
  refine flat_eq ?_ ?_ rfl
  · simp [Op.operands, evFlat, h, hc, flatD]
  · unfold tab8ok at h1
    have e : (execOp (fun y => (ev fr y).getD undef) (flatOper (.index 9 (.const (.string TAB8)) (.tmp 21)) 5)) = execOp (fun y => match y with | .const v => v | _ => .int .u8 (x : Int)) (flatOper (.index 9 (.const (.string TAB8)) (.tmp 21)) 5) := by
      simp only [execOp, flatOper, h, hc, Option.getD_some]
    rw [e]
    revert h1
    split
    · rename_i n hn
      intro h1
      rw [hn]
      have : n = (bl x : Int) := by simpa using h1
      rw [this]
    · intro h1; cases h1
theorem len64_xc (x : Nat) (hx : x < 18446744073709551616) (H : AH) : xc Try.prog tab 20 [.int .u64 (x : Int)] H = some (.int .i64 (bl x : Int), H) := by
  refine got_xc (got_call (res := [.tmp 2]) rfl ?_)
  have hT : ByteArray.mk TAB8.data = TAB8 := rfl
  have tb := fun (fr : Fr) (y : Nat) (hy : y < 256) (h : ev fr (.tmp 21) = some (.int .u8 (y : Int))) => v_tab8 fr H y hy h
  unfold TAB8 at tb
  have m32 : min (Int.toNat 32) IntKind.u64.bits = 32 := rfl
  have m16 : min (Int.toNat 16) IntKind.u64.bits = 16 := rfl
  have m8 : min (Int.toNat 8) IntKind.u64.bits = 8 := rfl
  have n32 : ¬ (32 : Int) < 0 := by decide
  have n16 : ¬ (16 : Int) < 0 := by decide
  have n8 : ¬ (8 : Int) < 0 := by decide
  have ss : ∀ (x k : Nat), ((x : Nat) : Int).fdiv (2 ^ k) = ((x / 2 ^ k : Nat) : Int) := fun x k => by rw [shrN, Nat.shiftRight_eq_div_pow]
  have s32 := fun x => ss x 32
  have s16 := fun x => ss x 16
  have s8 := fun x => ss x 8
  have W : ∀ a b : Nat, (a : Int) + (b : Int) < 1000 → IntKind.i64.wrap ((a : Int) + (b : Int)) = ((a + b : Nat) : Int) := fun a b h => by rw [wrI _ (by omega) (by omega)]; omega
  have p32 : (2 : Nat) ^ 32 = 4294967296 := rfl
  have p16 : (2 : Nat) ^ 16 = 65536 := rfl
  have p8 : (2 : Nat) ^ 8 = 256 := rfl
  by_cases c1 : ((x : Nat) : Int) ≥ 4294967296
  · by_cases c2 : ((x / 2 ^ 32 : Nat) : Int) ≥ 65536
    · by_cases c3 : ((x / 2 ^ 32 / 2 ^ 16 : Nat) : Int) ≥ 256
      · have b32 := bl_shr (x) 32 (by omega)
        have b16 := bl_shr (x / 2 ^ 32) 16 (by omega)
        have b8 := bl_shr (x / 2 ^ 32 / 2 ^ 16) 8 (by omega)
        have hy : x / 2 ^ 32 / 2 ^ 16 / 2 ^ 8 < 256 := by omega
        have hb : bl (x / 2 ^ 32 / 2 ^ 16 / 2 ^ 8) ≤ 8 := bl_mono (by omega)
        have wc := wrU8' ((x / 2 ^ 32 / 2 ^ 16 / 2 ^ 8 : Nat) : Int) (by omega) (by omega)
        have wd : IntKind.i64.wrap ((bl (x / 2 ^ 32 / 2 ^ 16 / 2 ^ 8) : Nat) : Int) = ((bl (x / 2 ^ 32 / 2 ^ 16 / 2 ^ 8) : Nat) : Int) := wrI _ (by omega) (by omega)
        have we : IntKind.i64.wrap (56 + ((bl (x / 2 ^ 32 / 2 ^ 16 / 2 ^ 8) : Nat) : Int)) = ((bl x : Nat) : Int) := by rw [wrI _ (by omega) (by omega)]; omega
        have w1 : IntKind.i64.wrap (32 + 16) = 48 := rfl
        have w2 : IntKind.i64.wrap (48 + 8) = 56 := rfl
        simp only [ofArgs, run_seq, run_block, run_ops, run_skip, run_exit, run_ret, thenQ_normal, thenQ_exit, thenQ_ret, blockQ_normal, blockQ_exit, blockQ_ret, retQ_ret, retQ_normal, ops_nil, ops_none, got_some, ops_wT, ops_wTn, ops_wF, ops_wFn, ops_wU, dops_wT, dops_wTn, dops_wF, dops_wFn, dops_wU, run_condT, run_condF, alt2_int, altB_bool, altI_int, altBB_bool, v_min, v_max, v_not, v_neg, optEv_none, optEv_some, isSome'_none, isSome'_some, pExt0, pExt1, pExt2, Bool.false_and, Bool.true_and, Bool.not_true, Bool.not_false, cond_true, cond_false, dops_nil, dops_none, xval_call, v_mov, v_bin, v_len, v_ext, v_idxA, v_ld, v_st, v_app, v_appN, v_cvs, v_bs1, pBs1, v_slc, v_conv, v_fld, v_fldA, v_new, v_box, v_mks, v_copy, v_isnil, v_nilck, v_pick, ev, evs_nil, evs_cons, fr_get_cons, fr_put_nil, fr_put_cons, fr_put_some, fr_put_none, fr_keep_nil, fr_keep_cons, fr_has_nil, fr_has_cons, Option.bind_some, Option.map_some, xbin, ibin, xresult_eq, xress_nil, xress_tmp, resV, ex_some, if_true, if_false, ite_true, ite_false, reduceIte, reduceCtorEq, Nat.reduceEqDiff, Nat.reduceLT, Nat.reduceLeDiff, Int.reduceLT, Int.reduceLE, Nat.zero_add, Nat.reduceAdd, Bool.false_eq_true, decide_eq_true_eq, decide_eq_false_iff_not, true_implies, false_implies, and_true, true_and, c1, c2, c3, decide_true, decide_false, m32, m16, m8, n32, n16, n8, s32, s16, s8, pConv, wc, w1, w2]
        rw [tb _ (x / 2 ^ 32 / 2 ^ 16 / 2 ^ 8) hy rfl]
        simp only [ofArgs, run_seq, run_block, run_ops, run_skip, run_exit, run_ret, thenQ_normal, thenQ_exit, thenQ_ret, blockQ_normal, blockQ_exit, blockQ_ret, retQ_ret, retQ_normal, ops_nil, ops_none, got_some, ops_wT, ops_wTn, ops_wF, ops_wFn, ops_wU, dops_wT, dops_wTn, dops_wF, dops_wFn, dops_wU, run_condT, run_condF, alt2_int, altB_bool, altI_int, altBB_bool, v_min, v_max, v_not, v_neg, optEv_none, optEv_some, isSome'_none, isSome'_some, pExt0, pExt1, pExt2, Bool.false_and, Bool.true_and, Bool.not_true, Bool.not_false, cond_true, cond_false, dops_nil, dops_none, xval_call, v_mov, v_bin, v_len, v_ext, v_idxA, v_ld, v_st, v_app, v_appN, v_cvs, v_bs1, pBs1, v_slc, v_conv, v_fld, v_fldA, v_new, v_box, v_mks, v_copy, v_isnil, v_nilck, v_pick, ev, evs_nil, evs_cons, fr_get_cons, fr_put_nil, fr_put_cons, fr_put_some, fr_put_none, fr_keep_nil, fr_keep_cons, fr_has_nil, fr_has_cons, Option.bind_some, Option.map_some, xbin, ibin, xresult_eq, xress_nil, xress_tmp, resV, ex_some, if_true, if_false, ite_true, ite_false, reduceIte, reduceCtorEq, Nat.reduceEqDiff, Nat.reduceLT, Nat.reduceLeDiff, Int.reduceLT, Int.reduceLE, Nat.zero_add, Nat.reduceAdd, Bool.false_eq_true, decide_eq_true_eq, decide_eq_false_iff_not, true_implies, false_implies, and_true, true_and, pConv, wd, we]
      · have b32 := bl_shr (x) 32 (by omega)
        have b16 := bl_shr (x / 2 ^ 32) 16 (by omega)
        have hy : x / 2 ^ 32 / 2 ^ 16 < 256 := by omega
        have hb : bl (x / 2 ^ 32 / 2 ^ 16) ≤ 8 := bl_mono (by omega)
        have wc := wrU8' ((x / 2 ^ 32 / 2 ^ 16 : Nat) : Int) (by omega) (by omega)
        have wd : IntKind.i64.wrap ((bl (x / 2 ^ 32 / 2 ^ 16) : Nat) : Int) = ((bl (x / 2 ^ 32 / 2 ^ 16) : Nat) : Int) := wrI _ (by omega) (by omega)
        have we : IntKind.i64.wrap (48 + ((bl (x / 2 ^ 32 / 2 ^ 16) : Nat) : Int)) = ((bl x : Nat) : Int) := by rw [wrI _ (by omega) (by omega)]; omega
        have w1 : IntKind.i64.wrap (32 + 16) = 48 := rfl
        simp only [ofArgs, run_seq, run_block, run_ops, run_skip, run_exit, run_ret, thenQ_normal, thenQ_exit, thenQ_ret, blockQ_normal, blockQ_exit, blockQ_ret, retQ_ret, retQ_normal, ops_nil, ops_none, got_some, ops_wT, ops_wTn, ops_wF, ops_wFn, ops_wU, dops_wT, dops_wTn, dops_wF, dops_wFn, dops_wU, run_condT, run_condF, alt2_int, altB_bool, altI_int, altBB_bool, v_min, v_max, v_not, v_neg, optEv_none, optEv_some, isSome'_none, isSome'_some, pExt0, pExt1, pExt2, Bool.false_and, Bool.true_and, Bool.not_true, Bool.not_false, cond_true, cond_false, dops_nil, dops_none, xval_call, v_mov, v_bin, v_len, v_ext, v_idxA, v_ld, v_st, v_app, v_appN, v_cvs, v_bs1, pBs1, v_slc, v_conv, v_fld, v_fldA, v_new, v_box, v_mks, v_copy, v_isnil, v_nilck, v_pick, ev, evs_nil, evs_cons, fr_get_cons, fr_put_nil, fr_put_cons, fr_put_some, fr_put_none, fr_keep_nil, fr_keep_cons, fr_has_nil, fr_has_cons, Option.bind_some, Option.map_some, xbin, ibin, xresult_eq, xress_nil, xress_tmp, resV, ex_some, if_true, if_false, ite_true, ite_false, reduceIte, reduceCtorEq, Nat.reduceEqDiff, Nat.reduceLT, Nat.reduceLeDiff, Int.reduceLT, Int.reduceLE, Nat.zero_add, Nat.reduceAdd, Bool.false_eq_true, decide_eq_true_eq, decide_eq_false_iff_not, true_implies, false_implies, and_true, true_and, c1, c2, c3, decide_true, decide_false, m32, m16, m8, n32, n16, n8, s32, s16, s8, pConv, wc, w1]
        rw [tb _ (x / 2 ^ 32 / 2 ^ 16) hy rfl]
        simp only [ofArgs, run_seq, run_block, run_ops, run_skip, run_exit, run_ret, thenQ_normal, thenQ_exit, thenQ_ret, blockQ_normal, blockQ_exit, blockQ_ret, retQ_ret, retQ_normal, ops_nil, ops_none, got_some, ops_wT, ops_wTn, ops_wF, ops_wFn, ops_wU, dops_wT, dops_wTn, dops_wF, dops_wFn, dops_wU, run_condT, run_condF, alt2_int, altB_bool, altI_int, altBB_bool, v_min, v_max, v_not, v_neg, optEv_none, optEv_some, isSome'_none, isSome'_some, pExt0, pExt1, pExt2, Bool.false_and, Bool.true_and, Bool.not_true, Bool.not_false, cond_true, cond_false, dops_nil, dops_none, xval_call, v_mov, v_bin, v_len, v_ext, v_idxA, v_ld, v_st, v_app, v_appN, v_cvs, v_bs1, pBs1, v_slc, v_conv, v_fld, v_fldA, v_new, v_box, v_mks, v_copy, v_isnil, v_nilck, v_pick, ev, evs_nil, evs_cons, fr_get_cons, fr_put_nil, fr_put_cons, fr_put_some, fr_put_none, fr_keep_nil, fr_keep_cons, fr_has_nil, fr_has_cons, Option.bind_some, Option.map_some, xbin, ibin, xresult_eq, xress_nil, xress_tmp, resV, ex_some, if_true, if_false, ite_true, ite_false, reduceIte, reduceCtorEq, Nat.reduceEqDiff, Nat.reduceLT, Nat.reduceLeDiff, Int.reduceLT, Int.reduceLE, Nat.zero_add, Nat.reduceAdd, Bool.false_eq_true, decide_eq_true_eq, decide_eq_false_iff_not, true_implies, false_implies, and_true, true_and, pConv, wd, we]
    · by_cases c3 : ((x / 2 ^ 32 : Nat) : Int) ≥ 256
      · have b32 := bl_shr (x) 32 (by omega)
        have b8 := bl_shr (x / 2 ^ 32) 8 (by omega)
        have hy : x / 2 ^ 32 / 2 ^ 8 < 256 := by omega
        have hb : bl (x / 2 ^ 32 / 2 ^ 8) ≤ 8 := bl_mono (by omega)
        have wc := wrU8' ((x / 2 ^ 32 / 2 ^ 8 : Nat) : Int) (by omega) (by omega)
        have wd : IntKind.i64.wrap ((bl (x / 2 ^ 32 / 2 ^ 8) : Nat) : Int) = ((bl (x / 2 ^ 32 / 2 ^ 8) : Nat) : Int) := wrI _ (by omega) (by omega)
        have we : IntKind.i64.wrap (40 + ((bl (x / 2 ^ 32 / 2 ^ 8) : Nat) : Int)) = ((bl x : Nat) : Int) := by rw [wrI _ (by omega) (by omega)]; omega
        have w1 : IntKind.i64.wrap (32 + 8) = 40 := rfl
        simp only [ofArgs, run_seq, run_block, run_ops, run_skip, run_exit, run_ret, thenQ_normal, thenQ_exit, thenQ_ret, blockQ_normal, blockQ_exit, blockQ_ret, retQ_ret, retQ_normal, ops_nil, ops_none, got_some, ops_wT, ops_wTn, ops_wF, ops_wFn, ops_wU, dops_wT, dops_wTn, dops_wF, dops_wFn, dops_wU, run_condT, run_condF, alt2_int, altB_bool, altI_int, altBB_bool, v_min, v_max, v_not, v_neg, optEv_none, optEv_some, isSome'_none, isSome'_some, pExt0, pExt1, pExt2, Bool.false_and, Bool.true_and, Bool.not_true, Bool.not_false, cond_true, cond_false, dops_nil, dops_none, xval_call, v_mov, v_bin, v_len, v_ext, v_idxA, v_ld, v_st, v_app, v_appN, v_cvs, v_bs1, pBs1, v_slc, v_conv, v_fld, v_fldA, v_new, v_box, v_mks, v_copy, v_isnil, v_nilck, v_pick, ev, evs_nil, evs_cons, fr_get_cons, fr_put_nil, fr_put_cons, fr_put_some, fr_put_none, fr_keep_nil, fr_keep_cons, fr_has_nil, fr_has_cons, Option.bind_some, Option.map_some, xbin, ibin, xresult_eq, xress_nil, xress_tmp, resV, ex_some, if_true, if_false, ite_true, ite_false, reduceIte, reduceCtorEq, Nat.reduceEqDiff, Nat.reduceLT, Nat.reduceLeDiff, Int.reduceLT, Int.reduceLE, Nat.zero_add, Nat.reduceAdd, Bool.false_eq_true, decide_eq_true_eq, decide_eq_false_iff_not, true_implies, false_implies, and_true, true_and, c1, c2, c3, decide_true, decide_false, m32, m16, m8, n32, n16, n8, s32, s16, s8, pConv, wc, w1]
        rw [tb _ (x / 2 ^ 32 / 2 ^ 8) hy rfl]
        simp only [ofArgs, run_seq, run_block, run_ops, run_skip, run_exit, run_ret, thenQ_normal, thenQ_exit, thenQ_ret, blockQ_normal, blockQ_exit, blockQ_ret, retQ_ret, retQ_normal, ops_nil, ops_none, got_some, ops_wT, ops_wTn, ops_wF, ops_wFn, ops_wU, dops_wT, dops_wTn, dops_wF, dops_wFn, dops_wU, run_condT, run_condF, alt2_int, altB_bool, altI_int, altBB_bool, v_min, v_max, v_not, v_neg, optEv_none, optEv_some, isSome'_none, isSome'_some, pExt0, pExt1, pExt2, Bool.false_and, Bool.true_and, Bool.not_true, Bool.not_false, cond_true, cond_false, dops_nil, dops_none, xval_call, v_mov, v_bin, v_len, v_ext, v_idxA, v_ld, v_st, v_app, v_appN, v_cvs, v_bs1, pBs1, v_slc, v_conv, v_fld, v_fldA, v_new, v_box, v_mks, v_copy, v_isnil, v_nilck, v_pick, ev, evs_nil, evs_cons, fr_get_cons, fr_put_nil, fr_put_cons, fr_put_some, fr_put_none, fr_keep_nil, fr_keep_cons, fr_has_nil, fr_has_cons, Option.bind_some, Option.map_some, xbin, ibin, xresult_eq, xress_nil, xress_tmp, resV, ex_some, if_true, if_false, ite_true, ite_false, reduceIte, reduceCtorEq, Nat.reduceEqDiff, Nat.reduceLT, Nat.reduceLeDiff, Int.reduceLT, Int.reduceLE, Nat.zero_add, Nat.reduceAdd, Bool.false_eq_true, decide_eq_true_eq, decide_eq_false_iff_not, true_implies, false_implies, and_true, true_and, pConv, wd, we]
      · have b32 := bl_shr (x) 32 (by omega)
        have hy : x / 2 ^ 32 < 256 := by omega
        have hb : bl (x / 2 ^ 32) ≤ 8 := bl_mono (by omega)
        have wc := wrU8' ((x / 2 ^ 32 : Nat) : Int) (by omega) (by omega)
        have wd : IntKind.i64.wrap ((bl (x / 2 ^ 32) : Nat) : Int) = ((bl (x / 2 ^ 32) : Nat) : Int) := wrI _ (by omega) (by omega)
        have we : IntKind.i64.wrap (32 + ((bl (x / 2 ^ 32) : Nat) : Int)) = ((bl x : Nat) : Int) := by rw [wrI _ (by omega) (by omega)]; omega
        simp only [ofArgs, run_seq, run_block, run_ops, run_skip, run_exit, run_ret, thenQ_normal, thenQ_exit, thenQ_ret, blockQ_normal, blockQ_exit, blockQ_ret, retQ_ret, retQ_normal, ops_nil, ops_none, got_some, ops_wT, ops_wTn, ops_wF, ops_wFn, ops_wU, dops_wT, dops_wTn, dops_wF, dops_wFn, dops_wU, run_condT, run_condF, alt2_int, altB_bool, altI_int, altBB_bool, v_min, v_max, v_not, v_neg, optEv_none, optEv_some, isSome'_none, isSome'_some, pExt0, pExt1, pExt2, Bool.false_and, Bool.true_and, Bool.not_true, Bool.not_false, cond_true, cond_false, dops_nil, dops_none, xval_call, v_mov, v_bin, v_len, v_ext, v_idxA, v_ld, v_st, v_app, v_appN, v_cvs, v_bs1, pBs1, v_slc, v_conv, v_fld, v_fldA, v_new, v_box, v_mks, v_copy, v_isnil, v_nilck, v_pick, ev, evs_nil, evs_cons, fr_get_cons, fr_put_nil, fr_put_cons, fr_put_some, fr_put_none, fr_keep_nil, fr_keep_cons, fr_has_nil, fr_has_cons, Option.bind_some, Option.map_some, xbin, ibin, xresult_eq, xress_nil, xress_tmp, resV, ex_some, if_true, if_false, ite_true, ite_false, reduceIte, reduceCtorEq, Nat.reduceEqDiff, Nat.reduceLT, Nat.reduceLeDiff, Int.reduceLT, Int.reduceLE, Nat.zero_add, Nat.reduceAdd, Bool.false_eq_true, decide_eq_true_eq, decide_eq_false_iff_not, true_implies, false_implies, and_true, true_and, c1, c2, c3, decide_true, decide_false, m32, m16, m8, n32, n16, n8, s32, s16, s8, pConv, wc]
        rw [tb _ (x / 2 ^ 32) hy rfl]
        simp only [ofArgs, run_seq, run_block, run_ops, run_skip, run_exit, run_ret, thenQ_normal, thenQ_exit, thenQ_ret, blockQ_normal, blockQ_exit, blockQ_ret, retQ_ret, retQ_normal, ops_nil, ops_none, got_some, ops_wT, ops_wTn, ops_wF, ops_wFn, ops_wU, dops_wT, dops_wTn, dops_wF, dops_wFn, dops_wU, run_condT, run_condF, alt2_int, altB_bool, altI_int, altBB_bool, v_min, v_max, v_not, v_neg, optEv_none, optEv_some, isSome'_none, isSome'_some, pExt0, pExt1, pExt2, Bool.false_and, Bool.true_and, Bool.not_true, Bool.not_false, cond_true, cond_false, dops_nil, dops_none, xval_call, v_mov, v_bin, v_len, v_ext, v_idxA, v_ld, v_st, v_app, v_appN, v_cvs, v_bs1, pBs1, v_slc, v_conv, v_fld, v_fldA, v_new, v_box, v_mks, v_copy, v_isnil, v_nilck, v_pick, ev, evs_nil, evs_cons, fr_get_cons, fr_put_nil, fr_put_cons, fr_put_some, fr_put_none, fr_keep_nil, fr_keep_cons, fr_has_nil, fr_has_cons, Option.bind_some, Option.map_some, xbin, ibin, xresult_eq, xress_nil, xress_tmp, resV, ex_some, if_true, if_false, ite_true, ite_false, reduceIte, reduceCtorEq, Nat.reduceEqDiff, Nat.reduceLT, Nat.reduceLeDiff, Int.reduceLT, Int.reduceLE, Nat.zero_add, Nat.reduceAdd, Bool.false_eq_true, decide_eq_true_eq, decide_eq_false_iff_not, true_implies, false_implies, and_true, true_and, pConv, wd, we]
  · by_cases c2 : ((x : Nat) : Int) ≥ 65536
    · by_cases c3 : ((x / 2 ^ 16 : Nat) : Int) ≥ 256
      · have b16 := bl_shr (x) 16 (by omega)
        have b8 := bl_shr (x / 2 ^ 16) 8 (by omega)
        have hy : x / 2 ^ 16 / 2 ^ 8 < 256 := by omega
        have hb : bl (x / 2 ^ 16 / 2 ^ 8) ≤ 8 := bl_mono (by omega)
        have wc := wrU8' ((x / 2 ^ 16 / 2 ^ 8 : Nat) : Int) (by omega) (by omega)
        have wd : IntKind.i64.wrap ((bl (x / 2 ^ 16 / 2 ^ 8) : Nat) : Int) = ((bl (x / 2 ^ 16 / 2 ^ 8) : Nat) : Int) := wrI _ (by omega) (by omega)
        have we : IntKind.i64.wrap (24 + ((bl (x / 2 ^ 16 / 2 ^ 8) : Nat) : Int)) = ((bl x : Nat) : Int) := by rw [wrI _ (by omega) (by omega)]; omega
        have w1 : IntKind.i64.wrap (0 + 16) = 16 := rfl
        have w2 : IntKind.i64.wrap (16 + 8) = 24 := rfl
        simp only [ofArgs, run_seq, run_block, run_ops, run_skip, run_exit, run_ret, thenQ_normal, thenQ_exit, thenQ_ret, blockQ_normal, blockQ_exit, blockQ_ret, retQ_ret, retQ_normal, ops_nil, ops_none, got_some, ops_wT, ops_wTn, ops_wF, ops_wFn, ops_wU, dops_wT, dops_wTn, dops_wF, dops_wFn, dops_wU, run_condT, run_condF, alt2_int, altB_bool, altI_int, altBB_bool, v_min, v_max, v_not, v_neg, optEv_none, optEv_some, isSome'_none, isSome'_some, pExt0, pExt1, pExt2, Bool.false_and, Bool.true_and, Bool.not_true, Bool.not_false, cond_true, cond_false, dops_nil, dops_none, xval_call, v_mov, v_bin, v_len, v_ext, v_idxA, v_ld, v_st, v_app, v_appN, v_cvs, v_bs1, pBs1, v_slc, v_conv, v_fld, v_fldA, v_new, v_box, v_mks, v_copy, v_isnil, v_nilck, v_pick, ev, evs_nil, evs_cons, fr_get_cons, fr_put_nil, fr_put_cons, fr_put_some, fr_put_none, fr_keep_nil, fr_keep_cons, fr_has_nil, fr_has_cons, Option.bind_some, Option.map_some, xbin, ibin, xresult_eq, xress_nil, xress_tmp, resV, ex_some, if_true, if_false, ite_true, ite_false, reduceIte, reduceCtorEq, Nat.reduceEqDiff, Nat.reduceLT, Nat.reduceLeDiff, Int.reduceLT, Int.reduceLE, Nat.zero_add, Nat.reduceAdd, Bool.false_eq_true, decide_eq_true_eq, decide_eq_false_iff_not, true_implies, false_implies, and_true, true_and, c1, c2, c3, decide_true, decide_false, m32, m16, m8, n32, n16, n8, s32, s16, s8, pConv, wc, w1, w2]
        rw [tb _ (x / 2 ^ 16 / 2 ^ 8) hy rfl]
        simp only [ofArgs, run_seq, run_block, run_ops, run_skip, run_exit, run_ret, thenQ_normal, thenQ_exit, thenQ_ret, blockQ_normal, blockQ_exit, blockQ_ret, retQ_ret, retQ_normal, ops_nil, ops_none, got_some, ops_wT, ops_wTn, ops_wF, ops_wFn, ops_wU, dops_wT, dops_wTn, dops_wF, dops_wFn, dops_wU, run_condT, run_condF, alt2_int, altB_bool, altI_int, altBB_bool, v_min, v_max, v_not, v_neg, optEv_none, optEv_some, isSome'_none, isSome'_some, pExt0, pExt1, pExt2, Bool.false_and, Bool.true_and, Bool.not_true, Bool.not_false, cond_true, cond_false, dops_nil, dops_none, xval_call, v_mov, v_bin, v_len, v_ext, v_idxA, v_ld, v_st, v_app, v_appN, v_cvs, v_bs1, pBs1, v_slc, v_conv, v_fld, v_fldA, v_new, v_box, v_mks, v_copy, v_isnil, v_nilck, v_pick, ev, evs_nil, evs_cons, fr_get_cons, fr_put_nil, fr_put_cons, fr_put_some, fr_put_none, fr_keep_nil, fr_keep_cons, fr_has_nil, fr_has_cons, Option.bind_some, Option.map_some, xbin, ibin, xresult_eq, xress_nil, xress_tmp, resV, ex_some, if_true, if_false, ite_true, ite_false, reduceIte, reduceCtorEq, Nat.reduceEqDiff, Nat.reduceLT, Nat.reduceLeDiff, Int.reduceLT, Int.reduceLE, Nat.zero_add, Nat.reduceAdd, Bool.false_eq_true, decide_eq_true_eq, decide_eq_false_iff_not, true_implies, false_implies, and_true, true_and, pConv, wd, we]
      · have b16 := bl_shr (x) 16 (by omega)
        have hy : x / 2 ^ 16 < 256 := by omega
        have hb : bl (x / 2 ^ 16) ≤ 8 := bl_mono (by omega)
        have wc := wrU8' ((x / 2 ^ 16 : Nat) : Int) (by omega) (by omega)
        have wd : IntKind.i64.wrap ((bl (x / 2 ^ 16) : Nat) : Int) = ((bl (x / 2 ^ 16) : Nat) : Int) := wrI _ (by omega) (by omega)
        have we : IntKind.i64.wrap (16 + ((bl (x / 2 ^ 16) : Nat) : Int)) = ((bl x : Nat) : Int) := by rw [wrI _ (by omega) (by omega)]; omega
        have w1 : IntKind.i64.wrap (0 + 16) = 16 := rfl
        simp only [ofArgs, run_seq, run_block, run_ops, run_skip, run_exit, run_ret, thenQ_normal, thenQ_exit, thenQ_ret, blockQ_normal, blockQ_exit, blockQ_ret, retQ_ret, retQ_normal, ops_nil, ops_none, got_some, ops_wT, ops_wTn, ops_wF, ops_wFn, ops_wU, dops_wT, dops_wTn, dops_wF, dops_wFn, dops_wU, run_condT, run_condF, alt2_int, altB_bool, altI_int, altBB_bool, v_min, v_max, v_not, v_neg, optEv_none, optEv_some, isSome'_none, isSome'_some, pExt0, pExt1, pExt2, Bool.false_and, Bool.true_and, Bool.not_true, Bool.not_false, cond_true, cond_false, dops_nil, dops_none, xval_call, v_mov, v_bin, v_len, v_ext, v_idxA, v_ld, v_st, v_app, v_appN, v_cvs, v_bs1, pBs1, v_slc, v_conv, v_fld, v_fldA, v_new, v_box, v_mks, v_copy, v_isnil, v_nilck, v_pick, ev, evs_nil, evs_cons, fr_get_cons, fr_put_nil, fr_put_cons, fr_put_some, fr_put_none, fr_keep_nil, fr_keep_cons, fr_has_nil, fr_has_cons, Option.bind_some, Option.map_some, xbin, ibin, xresult_eq, xress_nil, xress_tmp, resV, ex_some, if_true, if_false, ite_true, ite_false, reduceIte, reduceCtorEq, Nat.reduceEqDiff, Nat.reduceLT, Nat.reduceLeDiff, Int.reduceLT, Int.reduceLE, Nat.zero_add, Nat.reduceAdd, Bool.false_eq_true, decide_eq_true_eq, decide_eq_false_iff_not, true_implies, false_implies, and_true, true_and, c1, c2, c3, decide_true, decide_false, m32, m16, m8, n32, n16, n8, s32, s16, s8, pConv, wc, w1]
        rw [tb _ (x / 2 ^ 16) hy rfl]
        simp only [ofArgs, run_seq, run_block, run_ops, run_skip, run_exit, run_ret, thenQ_normal, thenQ_exit, thenQ_ret, blockQ_normal, blockQ_exit, blockQ_ret, retQ_ret, retQ_normal, ops_nil, ops_none, got_some, ops_wT, ops_wTn, ops_wF, ops_wFn, ops_wU, dops_wT, dops_wTn, dops_wF, dops_wFn, dops_wU, run_condT, run_condF, alt2_int, altB_bool, altI_int, altBB_bool, v_min, v_max, v_not, v_neg, optEv_none, optEv_some, isSome'_none, isSome'_some, pExt0, pExt1, pExt2, Bool.false_and, Bool.true_and, Bool.not_true, Bool.not_false, cond_true, cond_false, dops_nil, dops_none, xval_call, v_mov, v_bin, v_len, v_ext, v_idxA, v_ld, v_st, v_app, v_appN, v_cvs, v_bs1, pBs1, v_slc, v_conv, v_fld, v_fldA, v_new, v_box, v_mks, v_copy, v_isnil, v_nilck, v_pick, ev, evs_nil, evs_cons, fr_get_cons, fr_put_nil, fr_put_cons, fr_put_some, fr_put_none, fr_keep_nil, fr_keep_cons, fr_has_nil, fr_has_cons, Option.bind_some, Option.map_some, xbin, ibin, xresult_eq, xress_nil, xress_tmp, resV, ex_some, if_true, if_false, ite_true, ite_false, reduceIte, reduceCtorEq, Nat.reduceEqDiff, Nat.reduceLT, Nat.reduceLeDiff, Int.reduceLT, Int.reduceLE, Nat.zero_add, Nat.reduceAdd, Bool.false_eq_true, decide_eq_true_eq, decide_eq_false_iff_not, true_implies, false_implies, and_true, true_and, pConv, wd, we]
    · by_cases c3 : ((x : Nat) : Int) ≥ 256
      · have b8 := bl_shr (x) 8 (by omega)
        have hy : x / 2 ^ 8 < 256 := by omega
        have hb : bl (x / 2 ^ 8) ≤ 8 := bl_mono (by omega)
        have wc := wrU8' ((x / 2 ^ 8 : Nat) : Int) (by omega) (by omega)
        have wd : IntKind.i64.wrap ((bl (x / 2 ^ 8) : Nat) : Int) = ((bl (x / 2 ^ 8) : Nat) : Int) := wrI _ (by omega) (by omega)
        have we : IntKind.i64.wrap (8 + ((bl (x / 2 ^ 8) : Nat) : Int)) = ((bl x : Nat) : Int) := by rw [wrI _ (by omega) (by omega)]; omega
        have w1 : IntKind.i64.wrap (0 + 8) = 8 := rfl
        simp only [ofArgs, run_seq, run_block, run_ops, run_skip, run_exit, run_ret, thenQ_normal, thenQ_exit, thenQ_ret, blockQ_normal, blockQ_exit, blockQ_ret, retQ_ret, retQ_normal, ops_nil, ops_none, got_some, ops_wT, ops_wTn, ops_wF, ops_wFn, ops_wU, dops_wT, dops_wTn, dops_wF, dops_wFn, dops_wU, run_condT, run_condF, alt2_int, altB_bool, altI_int, altBB_bool, v_min, v_max, v_not, v_neg, optEv_none, optEv_some, isSome'_none, isSome'_some, pExt0, pExt1, pExt2, Bool.false_and, Bool.true_and, Bool.not_true, Bool.not_false, cond_true, cond_false, dops_nil, dops_none, xval_call, v_mov, v_bin, v_len, v_ext, v_idxA, v_ld, v_st, v_app, v_appN, v_cvs, v_bs1, pBs1, v_slc, v_conv, v_fld, v_fldA, v_new, v_box, v_mks, v_copy, v_isnil, v_nilck, v_pick, ev, evs_nil, evs_cons, fr_get_cons, fr_put_nil, fr_put_cons, fr_put_some, fr_put_none, fr_keep_nil, fr_keep_cons, fr_has_nil, fr_has_cons, Option.bind_some, Option.map_some, xbin, ibin, xresult_eq, xress_nil, xress_tmp, resV, ex_some, if_true, if_false, ite_true, ite_false, reduceIte, reduceCtorEq, Nat.reduceEqDiff, Nat.reduceLT, Nat.reduceLeDiff, Int.reduceLT, Int.reduceLE, Nat.zero_add, Nat.reduceAdd, Bool.false_eq_true, decide_eq_true_eq, decide_eq_false_iff_not, true_implies, false_implies, and_true, true_and, c1, c2, c3, decide_true, decide_false, m32, m16, m8, n32, n16, n8, s32, s16, s8, pConv, wc, w1]
        rw [tb _ (x / 2 ^ 8) hy rfl]
        simp only [ofArgs, run_seq, run_block, run_ops, run_skip, run_exit, run_ret, thenQ_normal, thenQ_exit, thenQ_ret, blockQ_normal, blockQ_exit, blockQ_ret, retQ_ret, retQ_normal, ops_nil, ops_none, got_some, ops_wT, ops_wTn, ops_wF, ops_wFn, ops_wU, dops_wT, dops_wTn, dops_wF, dops_wFn, dops_wU, run_condT, run_condF, alt2_int, altB_bool, altI_int, altBB_bool, v_min, v_max, v_not, v_neg, optEv_none, optEv_some, isSome'_none, isSome'_some, pExt0, pExt1, pExt2, Bool.false_and, Bool.true_and, Bool.not_true, Bool.not_false, cond_true, cond_false, dops_nil, dops_none, xval_call, v_mov, v_bin, v_len, v_ext, v_idxA, v_ld, v_st, v_app, v_appN, v_cvs, v_bs1, pBs1, v_slc, v_conv, v_fld, v_fldA, v_new, v_box, v_mks, v_copy, v_isnil, v_nilck, v_pick, ev, evs_nil, evs_cons, fr_get_cons, fr_put_nil, fr_put_cons, fr_put_some, fr_put_none, fr_keep_nil, fr_keep_cons, fr_has_nil, fr_has_cons, Option.bind_some, Option.map_some, xbin, ibin, xresult_eq, xress_nil, xress_tmp, resV, ex_some, if_true, if_false, ite_true, ite_false, reduceIte, reduceCtorEq, Nat.reduceEqDiff, Nat.reduceLT, Nat.reduceLeDiff, Int.reduceLT, Int.reduceLE, Nat.zero_add, Nat.reduceAdd, Bool.false_eq_true, decide_eq_true_eq, decide_eq_false_iff_not, true_implies, false_implies, and_true, true_and, pConv, wd, we]
      · have hy : x < 256 := by omega
        have hb : bl (x) ≤ 8 := bl_mono (by omega)
        have wc := wrU8' ((x : Nat) : Int) (by omega) (by omega)
        have wd : IntKind.i64.wrap ((bl (x) : Nat) : Int) = ((bl (x) : Nat) : Int) := wrI _ (by omega) (by omega)
        have we : IntKind.i64.wrap (0 + ((bl (x) : Nat) : Int)) = ((bl x : Nat) : Int) := by rw [wrI _ (by omega) (by omega)]; omega
        simp only [ofArgs, run_seq, run_block, run_ops, run_skip, run_exit, run_ret, thenQ_normal, thenQ_exit, thenQ_ret, blockQ_normal, blockQ_exit, blockQ_ret, retQ_ret, retQ_normal, ops_nil, ops_none, got_some, ops_wT, ops_wTn, ops_wF, ops_wFn, ops_wU, dops_wT, dops_wTn, dops_wF, dops_wFn, dops_wU, run_condT, run_condF, alt2_int, altB_bool, altI_int, altBB_bool, v_min, v_max, v_not, v_neg, optEv_none, optEv_some, isSome'_none, isSome'_some, pExt0, pExt1, pExt2, Bool.false_and, Bool.true_and, Bool.not_true, Bool.not_false, cond_true, cond_false, dops_nil, dops_none, xval_call, v_mov, v_bin, v_len, v_ext, v_idxA, v_ld, v_st, v_app, v_appN, v_cvs, v_bs1, pBs1, v_slc, v_conv, v_fld, v_fldA, v_new, v_box, v_mks, v_copy, v_isnil, v_nilck, v_pick, ev, evs_nil, evs_cons, fr_get_cons, fr_put_nil, fr_put_cons, fr_put_some, fr_put_none, fr_keep_nil, fr_keep_cons, fr_has_nil, fr_has_cons, Option.bind_some, Option.map_some, xbin, ibin, xresult_eq, xress_nil, xress_tmp, resV, ex_some, if_true, if_false, ite_true, ite_false, reduceIte, reduceCtorEq, Nat.reduceEqDiff, Nat.reduceLT, Nat.reduceLeDiff, Int.reduceLT, Int.reduceLE, Nat.zero_add, Nat.reduceAdd, Bool.false_eq_true, decide_eq_true_eq, decide_eq_false_iff_not, true_implies, false_implies, and_true, true_and, c1, c2, c3, decide_true, decide_false, m32, m16, m8, n32, n16, n8, s32, s16, s8, pConv, wc]
        rw [tb _ (x) hy rfl]
        simp only [ofArgs, run_seq, run_block, run_ops, run_skip, run_exit, run_ret, thenQ_normal, thenQ_exit, thenQ_ret, blockQ_normal, blockQ_exit, blockQ_ret, retQ_ret, retQ_normal, ops_nil, ops_none, got_some, ops_wT, ops_wTn, ops_wF, ops_wFn, ops_wU, dops_wT, dops_wTn, dops_wF, dops_wFn, dops_wU, run_condT, run_condF, alt2_int, altB_bool, altI_int, altBB_bool, v_min, v_max, v_not, v_neg, optEv_none, optEv_some, isSome'_none, isSome'_some, pExt0, pExt1, pExt2, Bool.false_and, Bool.true_and, Bool.not_true, Bool.not_false, cond_true, cond_false, dops_nil, dops_none, xval_call, v_mov, v_bin, v_len, v_ext, v_idxA, v_ld, v_st, v_app, v_appN, v_cvs, v_bs1, pBs1, v_slc, v_conv, v_fld, v_fldA, v_new, v_box, v_mks, v_copy, v_isnil, v_nilck, v_pick, ev, evs_nil, evs_cons, fr_get_cons, fr_put_nil, fr_put_cons, fr_put_some, fr_put_none, fr_keep_nil, fr_keep_cons, fr_has_nil, fr_has_cons, Option.bind_some, Option.map_some, xbin, ibin, xresult_eq, xress_nil, xress_tmp, resV, ex_some, if_true, if_false, ite_true, ite_false, reduceIte, reduceCtorEq, Nat.reduceEqDiff, Nat.reduceLT, Nat.reduceLeDiff, Int.reduceLT, Int.reduceLE, Nat.zero_add, Nat.reduceAdd, Bool.false_eq_true, decide_eq_true_eq, decide_eq_false_iff_not, true_implies, false_implies, and_true, true_and, pConv, wd, we]
end Go.Proofs.Ytbkmkelohlmblaa.D
