/- What functions that the law reaches compute, on a heap of the run's own: the conditions stand in each theorem. -/
import Derived.Test.YtbkmkelohlmblaaFvB
set_option linter.unusedSimpArgs false
set_option linter.unusedVariables false
namespace Go.Proofs.Ytbkmkelohlmblaa.D
open Go Go.Det

noncomputable def elem5 : TypeId := match Try.prog.underlying 23 with | some (.array _ e) => e | _ => 0
theorem arr5_u : Try.prog.underlying 23 = some (.array 5 elem5) := by kernel_rfl
theorem arr5_e : Try.prog.underlying elem5 = some (.int .u8) := by kernel_rfl
theorem arr5_s : pureRun Try.prog (sizeOf elem5) = some 1 := by kernel_rfl
theorem arr5_g : Try.prog.eqGuardType Try.prog.depth 23 = false := by kernel_rfl
theorem arr5 : Arr5 Try.prog 23 := ⟨⟨elem5, arr5_u, arr5_e, arr5_s⟩, arr5_g⟩
theorem v_eq5' {T : XTab} {fr : Fr} {H : AH} (dd : Option Nat) (x y : Operand) (t' ty : TypeId) : xval Try.prog (xc Try.prog T) ⟨dd, .flat (.binOp .eql 23 x y ty) t', none⟩ fr H =
    alt5 (ev fr x) (ev fr y) (fun r => some (.bool r, H)) (xop Try.prog fr H (.flat (.binOp .eql 23 x y ty) t')) := v_eq5 arr5 dd x y t' ty
theorem v_ne5' {T : XTab} {fr : Fr} {H : AH} (dd : Option Nat) (x y : Operand) (t' ty : TypeId) : xval Try.prog (xc Try.prog T) ⟨dd, .flat (.binOp .neq 23 x y ty) t', none⟩ fr H =
    alt5 (ev fr x) (ev fr y) (fun r => some (.bool (!r), H)) (xop Try.prog fr H (.flat (.binOp .neq 23 x y ty) t')) := v_ne5 arr5 dd x y t' ty
section
variable {T : XTab} {fr : Fr} {H : AH}
def pAA (k : Nat) (v : Value) (H : AH) : Option (Value × AH) := match v with
  | .pointer (some ⟨B, o, none⟩) => some (.pointer (some ⟨B, o + k * 1, none⟩), H)
  | _ => none
theorem pAA_ptr (k B o : Nat) (H : AH) : pAA k (.pointer (some ⟨B, o, none⟩)) H = some (.pointer (some ⟨B, o + k * 1, none⟩), H) := rfl
theorem v_aa (k : Nat) (hk : Nat.blt k 5 = true) (dd : Option Nat) (x : Operand) : xval Try.prog (xc Try.prog T) ⟨dd, .idxAA 5 1 x (.const (.int .i64 (k : Int))), none⟩ fr H = (ev fr x).bind fun v => pAA k v H := by
  rw [xval_op dd _ fr H rfl]
  show (match ev fr x, ev fr (.const (.int .i64 (k : Int))) with | some (.pointer (some ⟨B, o, none⟩)), some (.int _ (.ofNat k)) => bif Nat.blt k 5 then some (Value.pointer (some ⟨B, o + k * 1, none⟩), H) else none | _, _ => none) = _
  rcases ev fr x with _ | v
  · rfl
  unfold pAA
  cases v <;> try rfl
  rename_i p
  rcases p with _ | ⟨B, o, m⟩
  · rfl
  cases m
  · show (bif Nat.blt k 5 then some (Value.pointer (some ⟨B, o + k * 1, none⟩), H) else none) = _
    rw [hk]; rfl
  · rfl
theorem aa0 (dd : Option Nat) (x : Operand) : xval Try.prog (xc Try.prog T) ⟨dd, .idxAA 5 1 x (.const (.int .i64 0)), none⟩ fr H = (ev fr x).bind fun v => pAA 0 v H := v_aa 0 rfl dd x
theorem aa1 (dd : Option Nat) (x : Operand) : xval Try.prog (xc Try.prog T) ⟨dd, .idxAA 5 1 x (.const (.int .i64 1)), none⟩ fr H = (ev fr x).bind fun v => pAA 1 v H := v_aa 1 rfl dd x
theorem aa2 (dd : Option Nat) (x : Operand) : xval Try.prog (xc Try.prog T) ⟨dd, .idxAA 5 1 x (.const (.int .i64 2)), none⟩ fr H = (ev fr x).bind fun v => pAA 2 v H := v_aa 2 rfl dd x
theorem aa3 (dd : Option Nat) (x : Operand) : xval Try.prog (xc Try.prog T) ⟨dd, .idxAA 5 1 x (.const (.int .i64 3)), none⟩ fr H = (ev fr x).bind fun v => pAA 3 v H := v_aa 3 rfl dd x
theorem aa4 (dd : Option Nat) (x : Operand) : xval Try.prog (xc Try.prog T) ⟨dd, .idxAA 5 1 x (.const (.int .i64 4)), none⟩ fr H = (ev fr x).bind fun v => pAA 4 v H := v_aa 4 rfl dd x
theorem v_z5 (dd : Option Nat) : xval Try.prog (xc Try.prog T) ⟨dd, .build [.int .u8 0, .int .u8 0, .int .u8 0, .int .u8 0, .int .u8 0] [], none⟩ fr H = some (A5 Z5, H) := by
  rw [v_build]; rfl
end

/-! ### numbers -/
abbrev F5 := Option (Bool × Nat × Nat)
def Ok5 : F5 → Prop
  | none => True
  | some (_, m, e) => 2147483648 ≤ m ∧ m < 4294967296 ∧ 1 ≤ e ∧ e ≤ 255
def wd (s : Bool) (m : Nat) : Nat := m - 2147483648 + (if s then 2147483648 else 0)
def enc : F5 → W5
  | none => Z5
  | some (s, m, e) => ⟨(e : Int), ((wd s m / 16777216 : Nat) : Int), ((wd s m / 65536 % 256 : Nat) : Int), ((wd s m / 256 % 256 : Nat) : Int), ((wd s m % 256 : Nat) : Int)⟩
theorem wd_lt (s : Bool) (m : Nat) (h1 : 2147483648 ≤ m) (h2 : m < 4294967296) : wd s m < 4294967296 := by unfold wd; split <;> omega
theorem enc_e0 {s : Bool} {m e : Nat} : (enc (some (s, m, e))).e = (e : Int) := rfl
def prt : F5 → Value
  | none => .tuple #[.bool false, .int .u64 0, .int .i64 0]
  | some (s, m, e) => .tuple #[.bool s, .int .u64 (m : Int), .int .i64 ((e : Int) - 160)]

theorem check_ok (f : F5) (hf : Ok5 f) (H : AH) (Q : Value → AH → Prop) (hq : ∀ H', HExt H H' → Q (.int .i64 0) H') : Got (xc Try.prog tab 18 [A5 (enc f)] H) Q := by
  refine got_call (res := [.tmp 2]) rfl ?_
  have i5 := in5_push H (enc f)
  have x5 := hext_push H ⟨(enc f).cells, 1, false, false⟩
  simp only [ofArgs, run_seq, run_block, run_ops, run_skip, run_exit, run_ret, thenQ_normal, thenQ_exit, thenQ_ret, blockQ_normal, blockQ_exit, blockQ_ret, retQ_ret, retQ_normal, ops_nil, ops_none, got_some, ops_wT, ops_wTn, ops_wF, ops_wFn, ops_wU, dops_wT, dops_wTn, dops_wF, dops_wFn, dops_wU, run_condT, run_condF, alt2_int, altB_bool, altI_int, altBB_bool, v_min, v_max, v_not, v_neg, optEv_none, optEv_some, isSome'_none, isSome'_some, pExt0, pExt1, pExt2, Bool.false_and, Bool.true_and, Bool.not_true, Bool.not_false, cond_true, cond_false, dops_nil, dops_none, xval_call, v_mov, v_bin, v_len, v_ext, v_idxA, v_ld, v_st, v_app, v_appN, v_cvs, v_bs1, pBs1, v_slc, v_conv, v_fld, v_fldA, v_new, v_box, v_mks, v_copy, v_isnil, v_nilck, v_pick, ev, evs_nil, evs_cons, fr_get_cons, fr_put_nil, fr_put_cons, fr_put_some, fr_put_none, fr_keep_nil, fr_keep_cons, fr_has_nil, fr_has_cons, Option.bind_some, Option.map_some, xbin, ibin, xresult_eq, xress_nil, xress_tmp, resV, ex_some, if_true, if_false, ite_true, ite_false, reduceIte, reduceCtorEq, Nat.reduceEqDiff, Nat.reduceLT, Nat.reduceLeDiff, Int.reduceLT, Int.reduceLE, Nat.zero_add, Nat.reduceAdd, Bool.false_eq_true, decide_eq_true_eq, decide_eq_false_iff_not, true_implies, false_implies, and_true, true_and, cells_A5]
  generalize H.push ⟨(enc f).cells, 1, false, false⟩ = H1 at i5 x5
  have e0 := ld5_0 i5
  have e5 := ld5 i5
  cases f with
  | none =>
    have ez : (enc none).e = 0 := rfl
    have hd : decide (enc none = Z5) = true := rfl
    rw [ez] at e0
    simp only [ofArgs, run_seq, run_block, run_ops, run_skip, run_exit, run_ret, thenQ_normal, thenQ_exit, thenQ_ret, blockQ_normal, blockQ_exit, blockQ_ret, retQ_ret, retQ_normal, ops_nil, ops_none, got_some, ops_wT, ops_wTn, ops_wF, ops_wFn, ops_wU, dops_wT, dops_wTn, dops_wF, dops_wFn, dops_wU, run_condT, run_condF, alt2_int, altB_bool, altI_int, altBB_bool, v_min, v_max, v_not, v_neg, optEv_none, optEv_some, isSome'_none, isSome'_some, pExt0, pExt1, pExt2, Bool.false_and, Bool.true_and, Bool.not_true, Bool.not_false, cond_true, cond_false, dops_nil, dops_none, xval_call, v_mov, v_bin, v_len, v_ext, v_idxA, v_ld, v_st, v_app, v_appN, v_cvs, v_bs1, pBs1, v_slc, v_conv, v_fld, v_fldA, v_new, v_box, v_mks, v_copy, v_isnil, v_nilck, v_pick, ev, evs_nil, evs_cons, fr_get_cons, fr_put_nil, fr_put_cons, fr_put_some, fr_put_none, fr_keep_nil, fr_keep_cons, fr_has_nil, fr_has_cons, Option.bind_some, Option.map_some, xbin, ibin, xresult_eq, xress_nil, xress_tmp, resV, ex_some, if_true, if_false, ite_true, ite_false, reduceIte, reduceCtorEq, Nat.reduceEqDiff, Nat.reduceLT, Nat.reduceLeDiff, Int.reduceLT, Int.reduceLE, Nat.zero_add, Nat.reduceAdd, Bool.false_eq_true, decide_eq_true_eq, decide_eq_false_iff_not, true_implies, false_implies, and_true, true_and, pAA_ptr, aa0, e0, e5, v_z5, v_ne5', alt5_A5, hd, beq_self_eq_true]
    exact hq H1 x5
  | some p =>
    obtain ⟨s, m, e⟩ := p
    obtain ⟨h1, h2, h3, h4⟩ := hf
    rw [enc_e0] at e0
    have c1 : ((e : Int) == 0) = false := by simp; omega
    simp only [ofArgs, run_seq, run_block, run_ops, run_skip, run_exit, run_ret, thenQ_normal, thenQ_exit, thenQ_ret, blockQ_normal, blockQ_exit, blockQ_ret, retQ_ret, retQ_normal, ops_nil, ops_none, got_some, ops_wT, ops_wTn, ops_wF, ops_wFn, ops_wU, dops_wT, dops_wTn, dops_wF, dops_wFn, dops_wU, run_condT, run_condF, alt2_int, altB_bool, altI_int, altBB_bool, v_min, v_max, v_not, v_neg, optEv_none, optEv_some, isSome'_none, isSome'_some, pExt0, pExt1, pExt2, Bool.false_and, Bool.true_and, Bool.not_true, Bool.not_false, cond_true, cond_false, dops_nil, dops_none, xval_call, v_mov, v_bin, v_len, v_ext, v_idxA, v_ld, v_st, v_app, v_appN, v_cvs, v_bs1, pBs1, v_slc, v_conv, v_fld, v_fldA, v_new, v_box, v_mks, v_copy, v_isnil, v_nilck, v_pick, ev, evs_nil, evs_cons, fr_get_cons, fr_put_nil, fr_put_cons, fr_put_some, fr_put_none, fr_keep_nil, fr_keep_cons, fr_has_nil, fr_has_cons, Option.bind_some, Option.map_some, xbin, ibin, xresult_eq, xress_nil, xress_tmp, resV, ex_some, if_true, if_false, ite_true, ite_false, reduceIte, reduceCtorEq, Nat.reduceEqDiff, Nat.reduceLT, Nat.reduceLeDiff, Int.reduceLT, Int.reduceLE, Nat.zero_add, Nat.reduceAdd, Bool.false_eq_true, decide_eq_true_eq, decide_eq_false_iff_not, true_implies, false_implies, and_true, true_and, pAA_ptr, aa0, e0, c1]
    exact hq H1 x5

theorem or_word (w : Nat) (h : w < 4294967296) : (w / 16777216 * 16777216 ||| (w / 65536 % 256) * 65536 ||| (w / 256 % 256) * 256 ||| w % 256) = w := by
  have e1 : w / 16777216 * 16777216 ||| (w / 65536 % 256) * 65536 = 65536 * (w / 65536) := by
    rw [Nat.mul_comm, or_add (w / 16777216) _ 24 (by omega)]; omega
  have e2 : 65536 * (w / 65536) ||| (w / 256 % 256) * 256 = 256 * (w / 256) := by
    rw [or_add (w / 65536) _ 16 (by omega)]; omega
  have e3 : 256 * (w / 256) ||| w % 256 = w := by
    rw [or_add (w / 256) _ 8 (by omega)]; omega
  rw [e1, e2, e3]
theorem or31 (s : Bool) (m : Nat) (h1 : 2147483648 ≤ m) (h2 : m < 4294967296) : wd s m ||| 2147483648 = m := by
  obtain ⟨r, rfl⟩ : ∃ r, m = 2147483648 + r := ⟨m - 2147483648, by omega⟩
  have hr : r < 2 ^ 31 := by omega
  have e1 : 2147483648 ||| r = 2147483648 + r := or_add 1 r 31 hr
  unfold wd
  rw [Nat.add_sub_cancel_left]
  cases s
  · simp only [Bool.false_eq_true, if_false, Nat.add_zero]
    rw [Nat.or_comm, e1]
  · simp only [if_true]
    rw [Nat.add_comm r, ← e1, Nat.or_comm, ← Nat.or_assoc, Nat.or_self]
theorem wd_top (s : Bool) (m : Nat) (h1 : 2147483648 ≤ m) (h2 : m < 4294967296) : ((((wd s m / 2147483648 : Nat)) : Int) == 1) = s := by
  have h : wd s m / 2147483648 = s.toNat := by
    unfold wd
    cases s
    · rw [if_neg (by decide)]; show _ = 0; omega
    · rw [if_pos rfl]; show _ = 1; omega
  rw [h]
  cases s <;> rfl
theorem parts_ok (f : F5) (hf : Ok5 f) (H : AH) (Q : Value → AH → Prop) (hq : ∀ H', HExt H H' → Q (prt f) H') : Got (xc Try.prog tab 13 [A5 (enc f)] H) Q := by
  refine got_call (res := [.tmp 2, .tmp 3, .tmp 4]) rfl ?_
  have i5 := in5_push H (enc f)
  have x5 := hext_push H ⟨(enc f).cells, 1, false, false⟩
  simp only [ofArgs, run_seq, run_block, run_ops, run_skip, run_exit, run_ret, thenQ_normal, thenQ_exit, thenQ_ret, blockQ_normal, blockQ_exit, blockQ_ret, retQ_ret, retQ_normal, ops_nil, ops_none, got_some, ops_wT, ops_wTn, ops_wF, ops_wFn, ops_wU, dops_wT, dops_wTn, dops_wF, dops_wFn, dops_wU, run_condT, run_condF, alt2_int, altB_bool, altI_int, altBB_bool, v_min, v_max, v_not, v_neg, optEv_none, optEv_some, isSome'_none, isSome'_some, pExt0, pExt1, pExt2, Bool.false_and, Bool.true_and, Bool.not_true, Bool.not_false, cond_true, cond_false, dops_nil, dops_none, xval_call, v_mov, v_bin, v_len, v_ext, v_idxA, v_ld, v_st, v_app, v_appN, v_cvs, v_bs1, pBs1, v_slc, v_conv, v_fld, v_fldA, v_new, v_box, v_mks, v_copy, v_isnil, v_nilck, v_pick, ev, evs_nil, evs_cons, fr_get_cons, fr_put_nil, fr_put_cons, fr_put_some, fr_put_none, fr_keep_nil, fr_keep_cons, fr_has_nil, fr_has_cons, Option.bind_some, Option.map_some, xbin, ibin, xresult_eq, xress_nil, xress_tmp, resV, ex_some, if_true, if_false, ite_true, ite_false, reduceIte, reduceCtorEq, Nat.reduceEqDiff, Nat.reduceLT, Nat.reduceLeDiff, Int.reduceLT, Int.reduceLE, Nat.zero_add, Nat.reduceAdd, Bool.false_eq_true, decide_eq_true_eq, decide_eq_false_iff_not, true_implies, false_implies, and_true, true_and, cells_A5]
  generalize H.push ⟨(enc f).cells, 1, false, false⟩ = H1 at i5 x5
  have e0 := ld5_0 i5
  have e1 := ld5_1 i5
  have e2 := ld5_2 i5
  have e3 := ld5_3 i5
  have e4 := ld5_4 i5
  cases f with
  | none =>
    have ez : (enc none).e = 0 := rfl
    rw [ez] at e0
    simp only [ofArgs, run_seq, run_block, run_ops, run_skip, run_exit, run_ret, thenQ_normal, thenQ_exit, thenQ_ret, blockQ_normal, blockQ_exit, blockQ_ret, retQ_ret, retQ_normal, ops_nil, ops_none, got_some, ops_wT, ops_wTn, ops_wF, ops_wFn, ops_wU, dops_wT, dops_wTn, dops_wF, dops_wFn, dops_wU, run_condT, run_condF, alt2_int, altB_bool, altI_int, altBB_bool, v_min, v_max, v_not, v_neg, optEv_none, optEv_some, isSome'_none, isSome'_some, pExt0, pExt1, pExt2, Bool.false_and, Bool.true_and, Bool.not_true, Bool.not_false, cond_true, cond_false, dops_nil, dops_none, xval_call, v_mov, v_bin, v_len, v_ext, v_idxA, v_ld, v_st, v_app, v_appN, v_cvs, v_bs1, pBs1, v_slc, v_conv, v_fld, v_fldA, v_new, v_box, v_mks, v_copy, v_isnil, v_nilck, v_pick, ev, evs_nil, evs_cons, fr_get_cons, fr_put_nil, fr_put_cons, fr_put_some, fr_put_none, fr_keep_nil, fr_keep_cons, fr_has_nil, fr_has_cons, Option.bind_some, Option.map_some, xbin, ibin, xresult_eq, xress_nil, xress_tmp, resV, ex_some, if_true, if_false, ite_true, ite_false, reduceIte, reduceCtorEq, Nat.reduceEqDiff, Nat.reduceLT, Nat.reduceLeDiff, Int.reduceLT, Int.reduceLE, Nat.zero_add, Nat.reduceAdd, Bool.false_eq_true, decide_eq_true_eq, decide_eq_false_iff_not, true_implies, false_implies, and_true, true_and, pAA_ptr, aa0, e0, beq_self_eq_true]
    exact hq H1 x5
  | some p =>
    obtain ⟨s, m, e⟩ := p
    obtain ⟨h1, h2, h3, h4⟩ := hf
    rw [enc_e0] at e0
    have hw := wd_lt s m h1 h2
    have ea : (enc (some (s, m, e))).a = ((wd s m / 16777216 : Nat) : Int) := rfl
    have eb : (enc (some (s, m, e))).b = ((wd s m / 65536 % 256 : Nat) : Int) := rfl
    have ec : (enc (some (s, m, e))).c = ((wd s m / 256 % 256 : Nat) : Int) := rfl
    have ed : (enc (some (s, m, e))).d = ((wd s m % 256 : Nat) : Int) := rfl
    rw [ea] at e1
    rw [eb] at e2
    rw [ec] at e3
    rw [ed] at e4
    have c1 : ((e : Int) == 0) = false := by simp; omega
    have m24 : min (Int.toNat 24) IntKind.u64.bits = 24 := rfl
    have m16 : min (Int.toNat 16) IntKind.u64.bits = 16 := rfl
    have m8 : min (Int.toNat 8) IntKind.u64.bits = 8 := rfl
    have m31 : min (Int.toNat 31) IntKind.u64.bits = 31 := rfl
    have n24 : ¬ (24 : Int) < 0 := by decide
    have n16 : ¬ (16 : Int) < 0 := by decide
    have n8 : ¬ (8 : Int) < 0 := by decide
    have n31 : ¬ (31 : Int) < 0 := by decide
    have k1 := wrU (wd s m / 16777216) (by omega)
    have k2 := wrU (wd s m / 65536 % 256) (by omega)
    have k3 := wrU (wd s m / 256 % 256) (by omega)
    have k4 := wrU (wd s m % 256) (by omega)
    have l1 : IntKind.u64.wrap (((wd s m / 16777216 : Nat) : Int) * 2 ^ 24) = ((wd s m / 16777216 * 16777216 : Nat) : Int) := by
      rw [show ((wd s m / 16777216 : Nat) : Int) * 2 ^ 24 = ((wd s m / 16777216 * 16777216 : Nat) : Int) by rw [Int.natCast_mul]; rfl, wrU _ (by omega)]
    have l2 : IntKind.u64.wrap (((wd s m / 65536 % 256 : Nat) : Int) * 2 ^ 16) = ((wd s m / 65536 % 256 * 65536 : Nat) : Int) := by
      rw [show ((wd s m / 65536 % 256 : Nat) : Int) * 2 ^ 16 = ((wd s m / 65536 % 256 * 65536 : Nat) : Int) by rw [Int.natCast_mul]; rfl, wrU _ (by omega)]
    have l3 : IntKind.u64.wrap (((wd s m / 256 % 256 : Nat) : Int) * 2 ^ 8) = ((wd s m / 256 % 256 * 256 : Nat) : Int) := by
      rw [show ((wd s m / 256 % 256 : Nat) : Int) * 2 ^ 8 = ((wd s m / 256 % 256 * 256 : Nat) : Int) by rw [Int.natCast_mul]; rfl, wrU _ (by omega)]
    have o1 := u_or (wd s m / 16777216 * 16777216) (wd s m / 65536 % 256 * 65536) (by omega) (by omega)
    have b1 : (wd s m / 16777216 * 16777216 ||| wd s m / 65536 % 256 * 65536) < 2 ^ 64 := Nat.or_lt_two_pow (by omega) (by omega)
    have o2 := u_or (wd s m / 16777216 * 16777216 ||| wd s m / 65536 % 256 * 65536) (wd s m / 256 % 256 * 256) (by omega) (by omega)
    have b2 : (wd s m / 16777216 * 16777216 ||| wd s m / 65536 % 256 * 65536 ||| wd s m / 256 % 256 * 256) < 2 ^ 64 := Nat.or_lt_two_pow (by omega) (by omega)
    have o3 := u_or (wd s m / 16777216 * 16777216 ||| wd s m / 65536 % 256 * 65536 ||| wd s m / 256 % 256 * 256) (wd s m % 256) (by omega) (by omega)
    rw [or_word _ hw] at o3
    have o4 := u_or (wd s m) 2147483648 (by omega) (by omega)
    rw [or31 s m h1 h2] at o4
    have z31 : ((2147483648 : Nat) : Int) = 2147483648 := rfl
    rw [z31] at o4
    have s31 : ((wd s m : Nat) : Int).fdiv (2 ^ 31) = ((wd s m / 2147483648 : Nat) : Int) := by rw [shrN, Nat.shiftRight_eq_div_pow]
    have t31 := wd_top s m h1 h2
    have we := wrI (e : Int) (by omega) (by omega)
    have wf := wrI ((e : Int) - 160) (by omega) (by omega)
    simp only [ofArgs, run_seq, run_block, run_ops, run_skip, run_exit, run_ret, thenQ_normal, thenQ_exit, thenQ_ret, blockQ_normal, blockQ_exit, blockQ_ret, retQ_ret, retQ_normal, ops_nil, ops_none, got_some, ops_wT, ops_wTn, ops_wF, ops_wFn, ops_wU, dops_wT, dops_wTn, dops_wF, dops_wFn, dops_wU, run_condT, run_condF, alt2_int, altB_bool, altI_int, altBB_bool, v_min, v_max, v_not, v_neg, optEv_none, optEv_some, isSome'_none, isSome'_some, pExt0, pExt1, pExt2, Bool.false_and, Bool.true_and, Bool.not_true, Bool.not_false, cond_true, cond_false, dops_nil, dops_none, xval_call, v_mov, v_bin, v_len, v_ext, v_idxA, v_ld, v_st, v_app, v_appN, v_cvs, v_bs1, pBs1, v_slc, v_conv, v_fld, v_fldA, v_new, v_box, v_mks, v_copy, v_isnil, v_nilck, v_pick, ev, evs_nil, evs_cons, fr_get_cons, fr_put_nil, fr_put_cons, fr_put_some, fr_put_none, fr_keep_nil, fr_keep_cons, fr_has_nil, fr_has_cons, Option.bind_some, Option.map_some, xbin, ibin, xresult_eq, xress_nil, xress_tmp, resV, ex_some, if_true, if_false, ite_true, ite_false, reduceIte, reduceCtorEq, Nat.reduceEqDiff, Nat.reduceLT, Nat.reduceLeDiff, Int.reduceLT, Int.reduceLE, Nat.zero_add, Nat.reduceAdd, Bool.false_eq_true, decide_eq_true_eq, decide_eq_false_iff_not, true_implies, false_implies, and_true, true_and, pAA_ptr, aa0, aa1, aa2, aa3, aa4, e0, e1, e2, e3, e4, c1, pConv, k1, k2, k3, k4, m24, m16, m8, n24, n16, n8, l1, l2, l3, o1, o2, o3]
    refine run_dops _ _ _ _ _ rfl ?_
    simp only [ofArgs, run_seq, run_block, run_ops, run_skip, run_exit, run_ret, thenQ_normal, thenQ_exit, thenQ_ret, blockQ_normal, blockQ_exit, blockQ_ret, retQ_ret, retQ_normal, ops_nil, ops_none, got_some, ops_wT, ops_wTn, ops_wF, ops_wFn, ops_wU, dops_wT, dops_wTn, dops_wF, dops_wFn, dops_wU, run_condT, run_condF, alt2_int, altB_bool, altI_int, altBB_bool, v_min, v_max, v_not, v_neg, optEv_none, optEv_some, isSome'_none, isSome'_some, pExt0, pExt1, pExt2, Bool.false_and, Bool.true_and, Bool.not_true, Bool.not_false, cond_true, cond_false, dops_nil, dops_none, xval_call, v_mov, v_bin, v_len, v_ext, v_idxA, v_ld, v_st, v_app, v_appN, v_cvs, v_bs1, pBs1, v_slc, v_conv, v_fld, v_fldA, v_new, v_box, v_mks, v_copy, v_isnil, v_nilck, v_pick, ev, evs_nil, evs_cons, fr_get_cons, fr_put_nil, fr_put_cons, fr_put_some, fr_put_none, fr_keep_nil, fr_keep_cons, fr_has_nil, fr_has_cons, Option.bind_some, Option.map_some, xbin, ibin, xresult_eq, xress_nil, xress_tmp, resV, ex_some, if_true, if_false, ite_true, ite_false, reduceIte, reduceCtorEq, Nat.reduceEqDiff, Nat.reduceLT, Nat.reduceLeDiff, Int.reduceLT, Int.reduceLE, Nat.zero_add, Nat.reduceAdd, Bool.false_eq_true, decide_eq_true_eq, decide_eq_false_iff_not, true_implies, false_implies, and_true, true_and, pAA_ptr, aa0, e0, m31, n31, s31, t31, o4, pConv, we, wf]
    exact hq H1 x5
end Go.Proofs.Ytbkmkelohlmblaa.D
