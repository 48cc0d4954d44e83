/- What functions that the law reaches compute, on a heap of the run's own: the conditions stand in each theorem. -/
import Derived.Test.YtbkmkelohlmblaaFvC
set_option linter.unusedSimpArgs false
set_option linter.unusedVariables false
namespace Go.Proofs.Ytbkmkelohlmblaa.D
open Go Go.Det

/-! ### rounding -/
def rnd (m n : Nat) (more : Bool) : Nat := if m % 2 ^ n > 2 ^ (n - 1) ∨ (m % 2 ^ n = 2 ^ (n - 1) ∧ (more = true ∨ m / 2 ^ n % 2 = 1)) then m / 2 ^ n + 1 else m / 2 ^ n
def pkm (m : Nat) (more : Bool) : Nat × Int :=
  if bl m ≤ 32 then (m * 2 ^ (32 - bl m), (bl m : Int) - 32)
  else if rnd m (bl m - 32) more = 4294967296 then (2147483648, (bl m : Int) - 31) else (rnd m (bl m - 32) more, (bl m : Int) - 32)
def fin5 (s : Bool) (q : Nat) (e : Int) : F5 × Int := if e > 255 then (none, 21) else if e < 1 then (none, 0) else (some (s, q, e.toNat), 0)
def pack (s : Bool) (m : Nat) (exp : Int) (more : Bool) : F5 × Int := if m = 0 then (none, 0) else fin5 s (pkm m more).1 (exp + (pkm m more).2 + 160)
theorem top32 (m : Nat) (h : ¬ bl m ≤ 32) : 2147483648 ≤ m / 2 ^ (bl m - 32) ∧ m / 2 ^ (bl m - 32) < 4294967296 := by
  have h0 : m ≠ 0 := by intro e; subst e; simp [bl] at h
  have h1 := bl_le m h0
  have h2 := bl_lt m
  generalize bl m = L at h h1 h2
  have hp := Nat.pow_pos (n := L - 32) (by omega : 0 < 2)
  constructor
  · rw [Nat.le_div_iff_mul_le hp]
    have : 2147483648 * 2 ^ (L - 32) = 2 ^ (L - 1) := by rw [show (2147483648 : Nat) = 2 ^ 31 from rfl, ← Nat.pow_add]; congr 1; omega
    omega
  · rw [Nat.div_lt_iff_lt_mul hp]
    have : 4294967296 * 2 ^ (L - 32) = 2 ^ L := by rw [show (4294967296 : Nat) = 2 ^ 32 from rfl, ← Nat.pow_add]; congr 1; omega
    omega
theorem low32 (m : Nat) (h0 : m ≠ 0) (h : bl m ≤ 32) : 2147483648 ≤ m * 2 ^ (32 - bl m) ∧ m * 2 ^ (32 - bl m) < 4294967296 := by
  have h1 := bl_le m h0
  have h2 := bl_lt m
  have h3 := bl_pos m h0
  generalize bl m = L at h h1 h2 h3
  constructor
  · have := Nat.mul_le_mul_right (2 ^ (32 - L)) h1
    rw [← Nat.pow_add, show L - 1 + (32 - L) = 31 by omega] at this
    exact this
  · have := Nat.mul_lt_mul_of_pos_right h2 (Nat.pow_pos (n := 32 - L) (by omega : 0 < 2))
    rw [← Nat.pow_add, show L + (32 - L) = 32 by omega] at this
    exact this
theorem pkm_ok (m : Nat) (h0 : m ≠ 0) (more : Bool) : 2147483648 ≤ (pkm m more).1 ∧ (pkm m more).1 < 4294967296 := by
  unfold pkm
  split
  · exact low32 m h0 ‹_›
  · rename_i h
    have := top32 m h
    split
    · exact ⟨Nat.le_refl _, by show (2147483648 : Nat) < 4294967296; omega⟩
    · rename_i h2
      unfold rnd at h2 ⊢
      split at h2 <;> split <;> simp only [] <;> omega
theorem fin5_ok (s : Bool) (q : Nat) (e : Int) (h1 : 2147483648 ≤ q) (h2 : q < 4294967296) : Ok5 (fin5 s q e).1 := by
  unfold fin5
  split
  · trivial
  · split
    · trivial
    · exact ⟨h1, h2, by omega, by omega⟩
theorem pack_good (s : Bool) (m : Nat) (exp : Int) (more : Bool) : Ok5 (pack s m exp more).1 := by
  unfold pack
  split
  · trivial
  · exact fin5_ok s _ _ (pkm_ok m ‹_› more).1 (pkm_ok m ‹_› more).2

open Classical in
noncomputable def altb5 (a0 a1 a2 a3 a4 : Option Value) (f : W5 → Option (Value × AH)) (z : Option (Value × AH)) : Option (Value × AH) :=
  if h : ∃ w : W5, a0 = some (.int .u8 w.e) ∧ a1 = some (.int .u8 w.a) ∧ a2 = some (.int .u8 w.b) ∧ a3 = some (.int .u8 w.c) ∧ a4 = some (.int .u8 w.d) then f h.choose else z
theorem altb5_int (a b c d e : Int) (f : W5 → Option (Value × AH)) (z : Option (Value × AH)) : altb5 (some (.int .u8 a)) (some (.int .u8 b)) (some (.int .u8 c)) (some (.int .u8 d)) (some (.int .u8 e)) f z = f ⟨a, b, c, d, e⟩ := by
  have h : ∃ w : W5, some (Value.int .u8 a) = some (.int .u8 w.e) ∧ some (Value.int .u8 b) = some (.int .u8 w.a) ∧ some (Value.int .u8 c) = some (.int .u8 w.b) ∧ some (Value.int .u8 d) = some (.int .u8 w.c) ∧ some (Value.int .u8 e) = some (.int .u8 w.d) := ⟨⟨a, b, c, d, e⟩, rfl, rfl, rfl, rfl, rfl⟩
  unfold altb5
  rw [dif_pos h]
  have hs := h.choose_spec
  generalize h.choose = w at hs
  obtain ⟨w0, w1, w2, w3, w4⟩ := w
  simp only [Option.some.injEq, Value.int.injEq, true_and] at hs
  obtain ⟨h0, h1, h2, h3, h4⟩ := hs
  subst h0 h1 h2 h3 h4
  rfl
theorem v_b5 {T : XTab} {fr : Fr} {H : AH} (dd : Option Nat) (x0 x1 x2 x3 x4 : Operand) : xval Try.prog (xc Try.prog T) ⟨dd, .build [.int .u8 0, .int .u8 0, .int .u8 0, .int .u8 0, .int .u8 0] [(0, 1, x0), (1, 1, x1), (2, 1, x2), (3, 1, x3), (4, 1, x4)], none⟩ fr H =
    altb5 (ev fr x0) (ev fr x1) (ev fr x2) (ev fr x3) (ev fr x4) (fun w => some (A5 w, H)) (xop Try.prog fr H (.build [.int .u8 0, .int .u8 0, .int .u8 0, .int .u8 0, .int .u8 0] [(0, 1, x0), (1, 1, x1), (2, 1, x2), (3, 1, x3), (4, 1, x4)])) := by
  rw [xval_op dd _ fr H rfl]
  by_cases h : ∃ w : W5, ev fr x0 = some (.int .u8 w.e) ∧ ev fr x1 = some (.int .u8 w.a) ∧ ev fr x2 = some (.int .u8 w.b) ∧ ev fr x3 = some (.int .u8 w.c) ∧ ev fr x4 = some (.int .u8 w.d)
  · obtain ⟨w, h0, h1, h2, h3, h4⟩ := h
    rw [h0, h1, h2, h3, h4, altb5_int, e_build]
    simp only [xfill, h0, h1, h2, h3, h4]
    rfl
  · unfold altb5; rw [dif_neg h]

def ENCB (s : Bool) (q : Nat) (e : Int) : W5 := ⟨e, ((wd s q / 16777216 : Nat) : Int), ((wd s q / 65536 % 256 : Nat) : Int), ((wd s q / 256 % 256 : Nat) : Int), ((wd s q % 256 : Nat) : Int)⟩
theorem pk_tail (s : Bool) (q : Nat) (hq1 : 2147483648 ≤ q) (hq2 : q < 4294967296) (exp n : Int) (h1 : -5000 ≤ exp) (h2 : exp ≤ 5000) (n1 : -64 ≤ n) (n2 : n ≤ 64) (H : AH) (Q : Value → AH → Prop)
    (hq : ∀ H', HExt H H' → Q (.tuple #[A5 (enc (fin5 s q (exp + n + 160)).1), .int .i64 (fin5 s q (exp + n + 160)).2]) H') :
    Run Try.prog tab (.seq (.ops [⟨some 59, .mov (.tmp 2), none⟩, ⟨some 60, .mov (.tmp 10), none⟩, ⟨some 61, .bin .add (.tmp 59) (.tmp 60), none⟩, ⟨some 62, .bin .add (.tmp 61) (.const (.int .i64 160)), none⟩, ⟨some 13, .mov (.tmp 62), none⟩] [0, 1, 8, 13]) (.seq (.block 0 (.seq (.ops [⟨some 64, .mov (.tmp 13), none⟩, ⟨some 65, .bin .gtr (.tmp 64) (.const (.int .i64 255)), none⟩, ⟨some 63, .mov (.tmp 65), none⟩] [0, 1, 8, 13, 63]) (.cond (.tmp 63) (.seq (.ops [⟨some 66, .build [.int .u8 0, .int .u8 0, .int .u8 0, .int .u8 0, .int .u8 0] [], none⟩, ⟨none, .st 5 (.tmp 8) (.tmp 66), none⟩, ⟨some 9, .mov (.const (.int .i64 21)), none⟩] [8, 9]) .ret) (.seq (.ops [⟨some 68, .mov (.tmp 13), none⟩, ⟨some 69, .bin .lss (.tmp 68) (.const (.int .i64 1)), none⟩, ⟨some 67, .mov (.tmp 69), none⟩] [0, 1, 8, 13, 67]) (.cond (.tmp 67) (.seq (.ops [⟨some 70, .build [.int .u8 0, .int .u8 0, .int .u8 0, .int .u8 0, .int .u8 0] [], none⟩, ⟨none, .st 5 (.tmp 8) (.tmp 70), none⟩, ⟨some 9, .mov (.const (.int .i64 0)), none⟩] [8, 9]) .ret) .skip))))) (.seq (.ops [⟨some 71, .mov (.tmp 1), none⟩, ⟨some 72, .bin .andNot (.tmp 71) (.const (.int .u64 2147483648)), none⟩, ⟨some 1, .mov (.tmp 72), none⟩] [0, 1, 8, 13]) (.seq (.seq (.ops [⟨some 73, .mov (.tmp 0), none⟩] [1, 8, 13, 73]) (.cond (.tmp 73) (.ops [⟨some 74, .mov (.tmp 1), none⟩, ⟨some 75, .bin .or (.tmp 74) (.const (.int .u64 2147483648)), none⟩, ⟨some 1, .mov (.tmp 75), none⟩] [1, 8, 13]) .skip)) (.seq (.ops [⟨some 76, .mov (.tmp 13), none⟩, ⟨some 77, .conv .u8 (.tmp 76), none⟩, ⟨some 78, .mov (.tmp 1), none⟩, ⟨some 79, .bin .shr (.tmp 78) (.const (.int .u64 24)), none⟩, ⟨some 80, .conv .u8 (.tmp 79), none⟩, ⟨some 81, .mov (.tmp 1), none⟩, ⟨some 82, .bin .shr (.tmp 81) (.const (.int .u64 16)), none⟩, ⟨some 83, .conv .u8 (.tmp 82), none⟩, ⟨some 84, .mov (.tmp 1), none⟩, ⟨some 85, .bin .shr (.tmp 84) (.const (.int .u64 8)), none⟩, ⟨some 86, .conv .u8 (.tmp 85), none⟩, ⟨some 87, .mov (.tmp 1), none⟩, ⟨some 88, .conv .u8 (.tmp 87), none⟩, ⟨some 89, .build [.int .u8 0, .int .u8 0, .int .u8 0, .int .u8 0, .int .u8 0] [(0, 1, .tmp 77), (1, 1, .tmp 80), (2, 1, .tmp 83), (3, 1, .tmp 86), (4, 1, .tmp 88)], none⟩, ⟨none, .st 5 (.tmp 8) (.tmp 89), none⟩, ⟨some 9, .mov (.const (.int .i64 0)), none⟩] [8, 9]) .ret))))) [(0, .bool s), (1, .int .u64 (q : Int)), (2, .int .i64 exp), (8, .pointer (some ⟨H.n, 0, none⟩)), (10, .int .i64 n)] (H.push ⟨[.int .u8 0, .int .u8 0, .int .u8 0, .int .u8 0, .int .u8 0], 1, false, false⟩) (retQ [.cell 8 (some 5), .tmp 9] Q) := by
  have w1 := wrI (exp + n) (by omega) (by omega)
  have w2 := wrI (exp + n + 160) (by omega) (by omega)
  have hcell := fun (u : W5) (fr : Fr) (xs : List XRes) (h : fr.get 8 = some (.pointer (some ⟨H.n, 0, none⟩))) => xcell5 fr (putB H u) 8 H.n u xs h (in5_putB H u)
  generalize he : exp + n + 160 = e at hq w2
  unfold fin5 at hq
  by_cases c1 : e > 255
  · rw [if_pos c1] at hq
    simp only [ofArgs, run_seq, run_block, run_ops, run_skip, run_exit, run_ret, thenQ_normal, thenQ_exit, thenQ_ret, blockQ_normal, blockQ_exit, blockQ_ret, retQ_ret, retQ_normal, ops_nil, ops_none, got_some, ops_wT, ops_wTn, ops_wF, ops_wFn, ops_wU, dops_wT, dops_wTn, dops_wF, dops_wFn, dops_wU, run_condT, run_condF, alt2_int, altB_bool, altI_int, altBB_bool, v_min, v_max, v_not, v_neg, optEv_none, optEv_some, isSome'_none, isSome'_some, pExt0, pExt1, pExt2, Bool.false_and, Bool.true_and, Bool.not_true, Bool.not_false, cond_true, cond_false, dops_nil, dops_none, xval_call, v_mov, v_bin, v_len, v_ext, v_idxA, v_ld, v_st, v_app, v_appN, v_cvs, v_bs1, pBs1, v_slc, v_conv, v_fld, v_fldA, v_new, v_box, v_mks, v_copy, v_isnil, v_nilck, v_pick, ev, evs_nil, evs_cons, fr_get_cons, fr_put_nil, fr_put_cons, fr_put_some, fr_put_none, fr_keep_nil, fr_keep_cons, fr_has_nil, fr_has_cons, Option.bind_some, Option.map_some, xbin, ibin, xresult_eq, xress_nil, xress_tmp, resV, ex_some, if_true, if_false, ite_true, ite_false, reduceIte, reduceCtorEq, Nat.reduceEqDiff, Nat.reduceLT, Nat.reduceLeDiff, Int.reduceLT, Int.reduceLE, Nat.zero_add, Nat.reduceAdd, Bool.false_eq_true, decide_eq_true_eq, decide_eq_false_iff_not, true_implies, false_implies, and_true, true_and, w1, w2, he, c1, decide_true, v_z5, st5_new, hcell]
    exact hq _ (putB_ext H _)
  rw [if_neg c1] at hq
  by_cases c2 : e < 1
  · rw [if_pos c2] at hq
    simp only [ofArgs, run_seq, run_block, run_ops, run_skip, run_exit, run_ret, thenQ_normal, thenQ_exit, thenQ_ret, blockQ_normal, blockQ_exit, blockQ_ret, retQ_ret, retQ_normal, ops_nil, ops_none, got_some, ops_wT, ops_wTn, ops_wF, ops_wFn, ops_wU, dops_wT, dops_wTn, dops_wF, dops_wFn, dops_wU, run_condT, run_condF, alt2_int, altB_bool, altI_int, altBB_bool, v_min, v_max, v_not, v_neg, optEv_none, optEv_some, isSome'_none, isSome'_some, pExt0, pExt1, pExt2, Bool.false_and, Bool.true_and, Bool.not_true, Bool.not_false, cond_true, cond_false, dops_nil, dops_none, xval_call, v_mov, v_bin, v_len, v_ext, v_idxA, v_ld, v_st, v_app, v_appN, v_cvs, v_bs1, pBs1, v_slc, v_conv, v_fld, v_fldA, v_new, v_box, v_mks, v_copy, v_isnil, v_nilck, v_pick, ev, evs_nil, evs_cons, fr_get_cons, fr_put_nil, fr_put_cons, fr_put_some, fr_put_none, fr_keep_nil, fr_keep_cons, fr_has_nil, fr_has_cons, Option.bind_some, Option.map_some, xbin, ibin, xresult_eq, xress_nil, xress_tmp, resV, ex_some, if_true, if_false, ite_true, ite_false, reduceIte, reduceCtorEq, Nat.reduceEqDiff, Nat.reduceLT, Nat.reduceLeDiff, Int.reduceLT, Int.reduceLE, Nat.zero_add, Nat.reduceAdd, Bool.false_eq_true, decide_eq_true_eq, decide_eq_false_iff_not, true_implies, false_implies, and_true, true_and, w1, w2, he, c1, c2, decide_true, decide_false, v_z5, st5_new, hcell]
    exact hq _ (putB_ext H _)
  rw [if_neg c2] at hq
  obtain ⟨r, rfl⟩ : ∃ r, q = 2147483648 + r := ⟨q - 2147483648, by omega⟩
  have hr : r < 2147483648 := by omega
  have a1 := andNot31 r hr
  have a2 := u_or r 2147483648 (by omega) (by omega)
  have a3 : r ||| 2147483648 = 2147483648 + r := by rw [Nat.or_comm]; exact or_add 1 r 31 hr
  rw [a3] at a2
  have z31 : ((2147483648 : Nat) : Int) = 2147483648 := rfl
  rw [z31] at a2
  have m24 : min (Int.toNat 24) IntKind.u64.bits = 24 := rfl
  have m16 : min (Int.toNat 16) IntKind.u64.bits = 16 := rfl
  have m8 : min (Int.toNat 8) IntKind.u64.bits = 8 := rfl
  have n24 : ¬ (24 : Int) < 0 := by decide
  have n16 : ¬ (16 : Int) < 0 := by decide
  have n8 : ¬ (8 : Int) < 0 := by decide
  have s24 : ∀ x : Nat, ((x : Nat) : Int).fdiv (2 ^ 24) = ((x / 16777216 : Nat) : Int) := fun x => by rw [shrN, Nat.shiftRight_eq_div_pow]
  have s16 : ∀ x : Nat, ((x : Nat) : Int).fdiv (2 ^ 16) = ((x / 65536 : Nat) : Int) := fun x => by rw [shrN, Nat.shiftRight_eq_div_pow]
  have s8 : ∀ x : Nat, ((x : Nat) : Int).fdiv (2 ^ 8) = ((x / 256 : Nat) : Int) := fun x => by rw [shrN, Nat.shiftRight_eq_div_pow]
  have we := wrU8' e (by omega) (by omega)
  have u24 : ∀ x : Nat, x < 4294967296 → IntKind.u8.wrap ((x / 16777216 : Nat) : Int) = ((x / 16777216 : Nat) : Int) := fun x h => wrU8' _ (by omega) (by omega)
  have u16 : ∀ x : Nat, IntKind.u8.wrap ((x : Nat) : Int) = ((x % 256 : Nat) : Int) := fun x => by rw [wrU8m]; omega
  have hE : ((e.toNat : Nat) : Int) = e := by omega
  cases s with
  | false =>
    have hwd : wd false (2147483648 + r) = r := by unfold wd; simp
    have hee : enc (some (false, 2147483648 + r, e.toNat)) = ⟨e, ((r / 16777216 : Nat) : Int), ((r / 65536 % 256 : Nat) : Int), ((r / 256 % 256 : Nat) : Int), ((r % 256 : Nat) : Int)⟩ := by
      simp only [enc, hwd, hE]
    have v24 := u24 r (by omega)
    have v16 := u16 (r / 65536)
    have v8 := u16 (r / 256)
    have v0 := u16 r
    simp only [] at hq
    rw [hee] at hq
    simp only [ofArgs, run_seq, run_block, run_ops, run_skip, run_exit, run_ret, thenQ_normal, thenQ_exit, thenQ_ret, blockQ_normal, blockQ_exit, blockQ_ret, retQ_ret, retQ_normal, ops_nil, ops_none, got_some, ops_wT, ops_wTn, ops_wF, ops_wFn, ops_wU, dops_wT, dops_wTn, dops_wF, dops_wFn, dops_wU, run_condT, run_condF, alt2_int, altB_bool, altI_int, altBB_bool, v_min, v_max, v_not, v_neg, optEv_none, optEv_some, isSome'_none, isSome'_some, pExt0, pExt1, pExt2, Bool.false_and, Bool.true_and, Bool.not_true, Bool.not_false, cond_true, cond_false, dops_nil, dops_none, xval_call, v_mov, v_bin, v_len, v_ext, v_idxA, v_ld, v_st, v_app, v_appN, v_cvs, v_bs1, pBs1, v_slc, v_conv, v_fld, v_fldA, v_new, v_box, v_mks, v_copy, v_isnil, v_nilck, v_pick, ev, evs_nil, evs_cons, fr_get_cons, fr_put_nil, fr_put_cons, fr_put_some, fr_put_none, fr_keep_nil, fr_keep_cons, fr_has_nil, fr_has_cons, Option.bind_some, Option.map_some, xbin, ibin, xresult_eq, xress_nil, xress_tmp, resV, ex_some, if_true, if_false, ite_true, ite_false, reduceIte, reduceCtorEq, Nat.reduceEqDiff, Nat.reduceLT, Nat.reduceLeDiff, Int.reduceLT, Int.reduceLE, Nat.zero_add, Nat.reduceAdd, Bool.false_eq_true, decide_eq_true_eq, decide_eq_false_iff_not, true_implies, false_implies, and_true, true_and, w1, w2, he, c1, c2, decide_true, decide_false, a1, m24, m16, m8, n24, n16, n8, s24, s16, s8, pConv, we, v24, v16, v8, v0, v_b5, altb5_int, st5_new, hcell]
    exact hq _ (putB_ext H _)
  | true =>
    have hwd : wd true (2147483648 + r) = 2147483648 + r := by unfold wd; simp; omega
    have hee : enc (some (true, 2147483648 + r, e.toNat)) = ⟨e, (((2147483648 + r) / 16777216 : Nat) : Int), (((2147483648 + r) / 65536 % 256 : Nat) : Int), (((2147483648 + r) / 256 % 256 : Nat) : Int), (((2147483648 + r) % 256 : Nat) : Int)⟩ := by
      simp only [enc, hwd, hE]
    have v24 := u24 (2147483648 + r) (by omega)
    have v16 := u16 ((2147483648 + r) / 65536)
    have v8 := u16 ((2147483648 + r) / 256)
    have v0 := u16 (2147483648 + r)
    simp only [] at hq
    rw [hee] at hq
    simp only [ofArgs, run_seq, run_block, run_ops, run_skip, run_exit, run_ret, thenQ_normal, thenQ_exit, thenQ_ret, blockQ_normal, blockQ_exit, blockQ_ret, retQ_ret, retQ_normal, ops_nil, ops_none, got_some, ops_wT, ops_wTn, ops_wF, ops_wFn, ops_wU, dops_wT, dops_wTn, dops_wF, dops_wFn, dops_wU, run_condT, run_condF, alt2_int, altB_bool, altI_int, altBB_bool, v_min, v_max, v_not, v_neg, optEv_none, optEv_some, isSome'_none, isSome'_some, pExt0, pExt1, pExt2, Bool.false_and, Bool.true_and, Bool.not_true, Bool.not_false, cond_true, cond_false, dops_nil, dops_none, xval_call, v_mov, v_bin, v_len, v_ext, v_idxA, v_ld, v_st, v_app, v_appN, v_cvs, v_bs1, pBs1, v_slc, v_conv, v_fld, v_fldA, v_new, v_box, v_mks, v_copy, v_isnil, v_nilck, v_pick, ev, evs_nil, evs_cons, fr_get_cons, fr_put_nil, fr_put_cons, fr_put_some, fr_put_none, fr_keep_nil, fr_keep_cons, fr_has_nil, fr_has_cons, Option.bind_some, Option.map_some, xbin, ibin, xresult_eq, xress_nil, xress_tmp, resV, ex_some, if_true, if_false, ite_true, ite_false, reduceIte, reduceCtorEq, Nat.reduceEqDiff, Nat.reduceLT, Nat.reduceLeDiff, Int.reduceLT, Int.reduceLE, Nat.zero_add, Nat.reduceAdd, Bool.false_eq_true, decide_eq_true_eq, decide_eq_false_iff_not, true_implies, false_implies, and_true, true_and, w1, w2, he, c1, c2, decide_true, decide_false, a1, a2, m24, m16, m8, n24, n16, n8, s24, s16, s8, pConv, we, v24, v16, v8, v0, v_b5, altb5_int, st5_new, hcell]
    exact hq _ (putB_ext H _)

theorem pk_tail2 (s : Bool) (q : Nat) (hq1 : 2147483648 ≤ q) (hq2 : q < 4294967296) (exp n : Int) (h1 : -5000 ≤ exp) (h2 : exp ≤ 5000) (n1 : -64 ≤ n) (n2 : n ≤ 64) (H : AH) (Q : Value → AH → Prop)
    (hq : ∀ H', HExt H H' → Q (.tuple #[A5 (enc (fin5 s q (exp + n + 160)).1), .int .i64 (fin5 s q (exp + n + 160)).2]) H') :
    Run Try.prog tab (.seq (.ops [⟨some 59, .mov (.tmp 2), none⟩, ⟨some 60, .mov (.tmp 10), none⟩, ⟨some 61, .bin .add (.tmp 59) (.tmp 60), none⟩, ⟨some 62, .bin .add (.tmp 61) (.const (.int .i64 160)), none⟩, ⟨some 13, .mov (.tmp 62), none⟩] [0, 1, 8, 13]) (.seq (.block 0 (.seq (.ops [⟨some 64, .mov (.tmp 13), none⟩, ⟨some 65, .bin .gtr (.tmp 64) (.const (.int .i64 255)), none⟩, ⟨some 63, .mov (.tmp 65), none⟩] [0, 1, 8, 13, 63]) (.cond (.tmp 63) (.seq (.ops [⟨some 66, .build [.int .u8 0, .int .u8 0, .int .u8 0, .int .u8 0, .int .u8 0] [], none⟩, ⟨none, .st 5 (.tmp 8) (.tmp 66), none⟩, ⟨some 9, .mov (.const (.int .i64 21)), none⟩] [8, 9]) .ret) (.seq (.ops [⟨some 68, .mov (.tmp 13), none⟩, ⟨some 69, .bin .lss (.tmp 68) (.const (.int .i64 1)), none⟩, ⟨some 67, .mov (.tmp 69), none⟩] [0, 1, 8, 13, 67]) (.cond (.tmp 67) (.seq (.ops [⟨some 70, .build [.int .u8 0, .int .u8 0, .int .u8 0, .int .u8 0, .int .u8 0] [], none⟩, ⟨none, .st 5 (.tmp 8) (.tmp 70), none⟩, ⟨some 9, .mov (.const (.int .i64 0)), none⟩] [8, 9]) .ret) .skip))))) (.seq (.ops [⟨some 71, .mov (.tmp 1), none⟩, ⟨some 72, .bin .andNot (.tmp 71) (.const (.int .u64 2147483648)), none⟩, ⟨some 1, .mov (.tmp 72), none⟩] [0, 1, 8, 13]) (.seq (.seq (.ops [⟨some 73, .mov (.tmp 0), none⟩] [1, 8, 13, 73]) (.cond (.tmp 73) (.ops [⟨some 74, .mov (.tmp 1), none⟩, ⟨some 75, .bin .or (.tmp 74) (.const (.int .u64 2147483648)), none⟩, ⟨some 1, .mov (.tmp 75), none⟩] [1, 8, 13]) .skip)) (.seq (.ops [⟨some 76, .mov (.tmp 13), none⟩, ⟨some 77, .conv .u8 (.tmp 76), none⟩, ⟨some 78, .mov (.tmp 1), none⟩, ⟨some 79, .bin .shr (.tmp 78) (.const (.int .u64 24)), none⟩, ⟨some 80, .conv .u8 (.tmp 79), none⟩, ⟨some 81, .mov (.tmp 1), none⟩, ⟨some 82, .bin .shr (.tmp 81) (.const (.int .u64 16)), none⟩, ⟨some 83, .conv .u8 (.tmp 82), none⟩, ⟨some 84, .mov (.tmp 1), none⟩, ⟨some 85, .bin .shr (.tmp 84) (.const (.int .u64 8)), none⟩, ⟨some 86, .conv .u8 (.tmp 85), none⟩, ⟨some 87, .mov (.tmp 1), none⟩, ⟨some 88, .conv .u8 (.tmp 87), none⟩, ⟨some 89, .build [.int .u8 0, .int .u8 0, .int .u8 0, .int .u8 0, .int .u8 0] [(0, 1, .tmp 77), (1, 1, .tmp 80), (2, 1, .tmp 83), (3, 1, .tmp 86), (4, 1, .tmp 88)], none⟩, ⟨none, .st 5 (.tmp 8) (.tmp 89), none⟩, ⟨some 9, .mov (.const (.int .i64 0)), none⟩] [8, 9]) .ret))))) [(0, .bool s), (1, .int .u64 (q : Int)), (2, .int .i64 exp), (8, .pointer (some ⟨H.n, 0, none⟩)), (10, .int .i64 n), (56, .bool false)] (H.push ⟨[.int .u8 0, .int .u8 0, .int .u8 0, .int .u8 0, .int .u8 0], 1, false, false⟩) (retQ [.cell 8 (some 5), .tmp 9] Q) := by
  have w1 := wrI (exp + n) (by omega) (by omega)
  have w2 := wrI (exp + n + 160) (by omega) (by omega)
  have hcell := fun (u : W5) (fr : Fr) (xs : List XRes) (h : fr.get 8 = some (.pointer (some ⟨H.n, 0, none⟩))) => xcell5 fr (putB H u) 8 H.n u xs h (in5_putB H u)
  generalize he : exp + n + 160 = e at hq w2
  unfold fin5 at hq
  by_cases c1 : e > 255
  · rw [if_pos c1] at hq
    simp only [ofArgs, run_seq, run_block, run_ops, run_skip, run_exit, run_ret, thenQ_normal, thenQ_exit, thenQ_ret, blockQ_normal, blockQ_exit, blockQ_ret, retQ_ret, retQ_normal, ops_nil, ops_none, got_some, ops_wT, ops_wTn, ops_wF, ops_wFn, ops_wU, dops_wT, dops_wTn, dops_wF, dops_wFn, dops_wU, run_condT, run_condF, alt2_int, altB_bool, altI_int, altBB_bool, v_min, v_max, v_not, v_neg, optEv_none, optEv_some, isSome'_none, isSome'_some, pExt0, pExt1, pExt2, Bool.false_and, Bool.true_and, Bool.not_true, Bool.not_false, cond_true, cond_false, dops_nil, dops_none, xval_call, v_mov, v_bin, v_len, v_ext, v_idxA, v_ld, v_st, v_app, v_appN, v_cvs, v_bs1, pBs1, v_slc, v_conv, v_fld, v_fldA, v_new, v_box, v_mks, v_copy, v_isnil, v_nilck, v_pick, ev, evs_nil, evs_cons, fr_get_cons, fr_put_nil, fr_put_cons, fr_put_some, fr_put_none, fr_keep_nil, fr_keep_cons, fr_has_nil, fr_has_cons, Option.bind_some, Option.map_some, xbin, ibin, xresult_eq, xress_nil, xress_tmp, resV, ex_some, if_true, if_false, ite_true, ite_false, reduceIte, reduceCtorEq, Nat.reduceEqDiff, Nat.reduceLT, Nat.reduceLeDiff, Int.reduceLT, Int.reduceLE, Nat.zero_add, Nat.reduceAdd, Bool.false_eq_true, decide_eq_true_eq, decide_eq_false_iff_not, true_implies, false_implies, and_true, true_and, w1, w2, he, c1, decide_true, v_z5, st5_new, hcell]
    exact hq _ (putB_ext H _)
  rw [if_neg c1] at hq
  by_cases c2 : e < 1
  · rw [if_pos c2] at hq
    simp only [ofArgs, run_seq, run_block, run_ops, run_skip, run_exit, run_ret, thenQ_normal, thenQ_exit, thenQ_ret, blockQ_normal, blockQ_exit, blockQ_ret, retQ_ret, retQ_normal, ops_nil, ops_none, got_some, ops_wT, ops_wTn, ops_wF, ops_wFn, ops_wU, dops_wT, dops_wTn, dops_wF, dops_wFn, dops_wU, run_condT, run_condF, alt2_int, altB_bool, altI_int, altBB_bool, v_min, v_max, v_not, v_neg, optEv_none, optEv_some, isSome'_none, isSome'_some, pExt0, pExt1, pExt2, Bool.false_and, Bool.true_and, Bool.not_true, Bool.not_false, cond_true, cond_false, dops_nil, dops_none, xval_call, v_mov, v_bin, v_len, v_ext, v_idxA, v_ld, v_st, v_app, v_appN, v_cvs, v_bs1, pBs1, v_slc, v_conv, v_fld, v_fldA, v_new, v_box, v_mks, v_copy, v_isnil, v_nilck, v_pick, ev, evs_nil, evs_cons, fr_get_cons, fr_put_nil, fr_put_cons, fr_put_some, fr_put_none, fr_keep_nil, fr_keep_cons, fr_has_nil, fr_has_cons, Option.bind_some, Option.map_some, xbin, ibin, xresult_eq, xress_nil, xress_tmp, resV, ex_some, if_true, if_false, ite_true, ite_false, reduceIte, reduceCtorEq, Nat.reduceEqDiff, Nat.reduceLT, Nat.reduceLeDiff, Int.reduceLT, Int.reduceLE, Nat.zero_add, Nat.reduceAdd, Bool.false_eq_true, decide_eq_true_eq, decide_eq_false_iff_not, true_implies, false_implies, and_true, true_and, w1, w2, he, c1, c2, decide_true, decide_false, v_z5, st5_new, hcell]
    exact hq _ (putB_ext H _)
  rw [if_neg c2] at hq
  obtain ⟨r, rfl⟩ : ∃ r, q = 2147483648 + r := ⟨q - 2147483648, by omega⟩
  have hr : r < 2147483648 := by omega
  have a1 := andNot31 r hr
  have a2 := u_or r 2147483648 (by omega) (by omega)
  have a3 : r ||| 2147483648 = 2147483648 + r := by rw [Nat.or_comm]; exact or_add 1 r 31 hr
  rw [a3] at a2
  have z31 : ((2147483648 : Nat) : Int) = 2147483648 := rfl
  rw [z31] at a2
  have m24 : min (Int.toNat 24) IntKind.u64.bits = 24 := rfl
  have m16 : min (Int.toNat 16) IntKind.u64.bits = 16 := rfl
  have m8 : min (Int.toNat 8) IntKind.u64.bits = 8 := rfl
  have n24 : ¬ (24 : Int) < 0 := by decide
  have n16 : ¬ (16 : Int) < 0 := by decide
  have n8 : ¬ (8 : Int) < 0 := by decide
  have s24 : ∀ x : Nat, ((x : Nat) : Int).fdiv (2 ^ 24) = ((x / 16777216 : Nat) : Int) := fun x => by rw [shrN, Nat.shiftRight_eq_div_pow]
  have s16 : ∀ x : Nat, ((x : Nat) : Int).fdiv (2 ^ 16) = ((x / 65536 : Nat) : Int) := fun x => by rw [shrN, Nat.shiftRight_eq_div_pow]
  have s8 : ∀ x : Nat, ((x : Nat) : Int).fdiv (2 ^ 8) = ((x / 256 : Nat) : Int) := fun x => by rw [shrN, Nat.shiftRight_eq_div_pow]
  have we := wrU8' e (by omega) (by omega)
  have u24 : ∀ x : Nat, x < 4294967296 → IntKind.u8.wrap ((x / 16777216 : Nat) : Int) = ((x / 16777216 : Nat) : Int) := fun x h => wrU8' _ (by omega) (by omega)
  have u16 : ∀ x : Nat, IntKind.u8.wrap ((x : Nat) : Int) = ((x % 256 : Nat) : Int) := fun x => by rw [wrU8m]; omega
  have hE : ((e.toNat : Nat) : Int) = e := by omega
  cases s with
  | false =>
    have hwd : wd false (2147483648 + r) = r := by unfold wd; simp
    have hee : enc (some (false, 2147483648 + r, e.toNat)) = ⟨e, ((r / 16777216 : Nat) : Int), ((r / 65536 % 256 : Nat) : Int), ((r / 256 % 256 : Nat) : Int), ((r % 256 : Nat) : Int)⟩ := by
      simp only [enc, hwd, hE]
    have v24 := u24 r (by omega)
    have v16 := u16 (r / 65536)
    have v8 := u16 (r / 256)
    have v0 := u16 r
    simp only [] at hq
    rw [hee] at hq
    simp only [ofArgs, run_seq, run_block, run_ops, run_skip, run_exit, run_ret, thenQ_normal, thenQ_exit, thenQ_ret, blockQ_normal, blockQ_exit, blockQ_ret, retQ_ret, retQ_normal, ops_nil, ops_none, got_some, ops_wT, ops_wTn, ops_wF, ops_wFn, ops_wU, dops_wT, dops_wTn, dops_wF, dops_wFn, dops_wU, run_condT, run_condF, alt2_int, altB_bool, altI_int, altBB_bool, v_min, v_max, v_not, v_neg, optEv_none, optEv_some, isSome'_none, isSome'_some, pExt0, pExt1, pExt2, Bool.false_and, Bool.true_and, Bool.not_true, Bool.not_false, cond_true, cond_false, dops_nil, dops_none, xval_call, v_mov, v_bin, v_len, v_ext, v_idxA, v_ld, v_st, v_app, v_appN, v_cvs, v_bs1, pBs1, v_slc, v_conv, v_fld, v_fldA, v_new, v_box, v_mks, v_copy, v_isnil, v_nilck, v_pick, ev, evs_nil, evs_cons, fr_get_cons, fr_put_nil, fr_put_cons, fr_put_some, fr_put_none, fr_keep_nil, fr_keep_cons, fr_has_nil, fr_has_cons, Option.bind_some, Option.map_some, xbin, ibin, xresult_eq, xress_nil, xress_tmp, resV, ex_some, if_true, if_false, ite_true, ite_false, reduceIte, reduceCtorEq, Nat.reduceEqDiff, Nat.reduceLT, Nat.reduceLeDiff, Int.reduceLT, Int.reduceLE, Nat.zero_add, Nat.reduceAdd, Bool.false_eq_true, decide_eq_true_eq, decide_eq_false_iff_not, true_implies, false_implies, and_true, true_and, w1, w2, he, c1, c2, decide_true, decide_false, a1, m24, m16, m8, n24, n16, n8, s24, s16, s8, pConv, we, v24, v16, v8, v0, v_b5, altb5_int, st5_new, hcell]
    exact hq _ (putB_ext H _)
  | true =>
    have hwd : wd true (2147483648 + r) = 2147483648 + r := by unfold wd; simp; omega
    have hee : enc (some (true, 2147483648 + r, e.toNat)) = ⟨e, (((2147483648 + r) / 16777216 : Nat) : Int), (((2147483648 + r) / 65536 % 256 : Nat) : Int), (((2147483648 + r) / 256 % 256 : Nat) : Int), (((2147483648 + r) % 256 : Nat) : Int)⟩ := by
      simp only [enc, hwd, hE]
    have v24 := u24 (2147483648 + r) (by omega)
    have v16 := u16 ((2147483648 + r) / 65536)
    have v8 := u16 ((2147483648 + r) / 256)
    have v0 := u16 (2147483648 + r)
    simp only [] at hq
    rw [hee] at hq
    simp only [ofArgs, run_seq, run_block, run_ops, run_skip, run_exit, run_ret, thenQ_normal, thenQ_exit, thenQ_ret, blockQ_normal, blockQ_exit, blockQ_ret, retQ_ret, retQ_normal, ops_nil, ops_none, got_some, ops_wT, ops_wTn, ops_wF, ops_wFn, ops_wU, dops_wT, dops_wTn, dops_wF, dops_wFn, dops_wU, run_condT, run_condF, alt2_int, altB_bool, altI_int, altBB_bool, v_min, v_max, v_not, v_neg, optEv_none, optEv_some, isSome'_none, isSome'_some, pExt0, pExt1, pExt2, Bool.false_and, Bool.true_and, Bool.not_true, Bool.not_false, cond_true, cond_false, dops_nil, dops_none, xval_call, v_mov, v_bin, v_len, v_ext, v_idxA, v_ld, v_st, v_app, v_appN, v_cvs, v_bs1, pBs1, v_slc, v_conv, v_fld, v_fldA, v_new, v_box, v_mks, v_copy, v_isnil, v_nilck, v_pick, ev, evs_nil, evs_cons, fr_get_cons, fr_put_nil, fr_put_cons, fr_put_some, fr_put_none, fr_keep_nil, fr_keep_cons, fr_has_nil, fr_has_cons, Option.bind_some, Option.map_some, xbin, ibin, xresult_eq, xress_nil, xress_tmp, resV, ex_some, if_true, if_false, ite_true, ite_false, reduceIte, reduceCtorEq, Nat.reduceEqDiff, Nat.reduceLT, Nat.reduceLeDiff, Int.reduceLT, Int.reduceLE, Nat.zero_add, Nat.reduceAdd, Bool.false_eq_true, decide_eq_true_eq, decide_eq_false_iff_not, true_implies, false_implies, and_true, true_and, w1, w2, he, c1, c2, decide_true, decide_false, a1, a2, m24, m16, m8, n24, n16, n8, s24, s16, s8, pConv, we, v24, v16, v8, v0, v_b5, altb5_int, st5_new, hcell]
    exact hq _ (putB_ext H _)

set_option maxHeartbeats 4000000 in
theorem pack_ok (s : Bool) (m : Nat) (hm : m < 18446744073709551616) (exp : Int) (x1 : -5000 ≤ exp) (x2 : exp ≤ 5000) (more : Bool) (H : AH) (Q : Value → AH → Prop)
    (hq : ∀ H', HExt H H' → Q (.tuple #[A5 (enc (pack s m exp more).1), .int .i64 (pack s m exp more).2]) H') :
    Got (xc Try.prog tab 15 [.bool s, .int .u64 (m : Int), .int .i64 exp, .bool more] H) Q := by
  refine got_call (res := [.cell 8 (some 5), .tmp 9]) rfl ?_
  unfold pack at hq
  have hcell := fun (u : W5) (fr : Fr) (xs : List XRes) (h : fr.get 8 = some (.pointer (some ⟨H.n, 0, none⟩))) => xcell5 fr (putB H u) 8 H.n u xs h (in5_putB H u)
  by_cases h0 : m = 0
  · subst h0
    have c0 : (((0 : Nat) : Int) == 0) = true := rfl
    rw [if_pos rfl] at hq
    simp only [ofArgs, run_seq, run_block, run_ops, run_skip, run_exit, run_ret, thenQ_normal, thenQ_exit, thenQ_ret, blockQ_normal, blockQ_exit, blockQ_ret, retQ_ret, retQ_normal, ops_nil, ops_none, got_some, ops_wT, ops_wTn, ops_wF, ops_wFn, ops_wU, dops_wT, dops_wTn, dops_wF, dops_wFn, dops_wU, run_condT, run_condF, alt2_int, altB_bool, altI_int, altBB_bool, v_min, v_max, v_not, v_neg, optEv_none, optEv_some, isSome'_none, isSome'_some, pExt0, pExt1, pExt2, Bool.false_and, Bool.true_and, Bool.not_true, Bool.not_false, cond_true, cond_false, dops_nil, dops_none, xval_call, v_mov, v_bin, v_len, v_ext, v_idxA, v_ld, v_st, v_app, v_appN, v_cvs, v_bs1, pBs1, v_slc, v_conv, v_fld, v_fldA, v_new, v_box, v_mks, v_copy, v_isnil, v_nilck, v_pick, ev, evs_nil, evs_cons, fr_get_cons, fr_put_nil, fr_put_cons, fr_put_some, fr_put_none, fr_keep_nil, fr_keep_cons, fr_has_nil, fr_has_cons, Option.bind_some, Option.map_some, xbin, ibin, xresult_eq, xress_nil, xress_tmp, resV, ex_some, if_true, if_false, ite_true, ite_false, reduceIte, reduceCtorEq, Nat.reduceEqDiff, Nat.reduceLT, Nat.reduceLeDiff, Int.reduceLT, Int.reduceLE, Nat.zero_add, Nat.reduceAdd, Bool.false_eq_true, decide_eq_true_eq, decide_eq_false_iff_not, true_implies, false_implies, and_true, true_and, c0, v_z5, st5_new, hcell]
    exact hq _ (putB_ext H _)
  rw [if_neg h0] at hq
  have c0 : ((m : Int) == 0) = false := by simp; omega
  have hl1 := bl_pos m h0
  have hl2 : bl m ≤ 64 := bl_mono (by omega)
  have ho := pkm_ok m h0 more
  have e1 := fun H => len64_xc m hm H
  have w1 := wrI ((bl m : Int) - 32) (by omega) (by omega)
  generalize hT : ((.seq (.ops [⟨some 59, .mov (.tmp 2), none⟩, ⟨some 60, .mov (.tmp 10), none⟩, ⟨some 61, .bin .add (.tmp 59) (.tmp 60), none⟩, ⟨some 62, .bin .add (.tmp 61) (.const (.int .i64 160)), none⟩, ⟨some 13, .mov (.tmp 62), none⟩] [0, 1, 8, 13]) (.seq (.block 0 (.seq (.ops [⟨some 64, .mov (.tmp 13), none⟩, ⟨some 65, .bin .gtr (.tmp 64) (.const (.int .i64 255)), none⟩, ⟨some 63, .mov (.tmp 65), none⟩] [0, 1, 8, 13, 63]) (.cond (.tmp 63) (.seq (.ops [⟨some 66, .build [.int .u8 0, .int .u8 0, .int .u8 0, .int .u8 0, .int .u8 0] [], none⟩, ⟨none, .st 5 (.tmp 8) (.tmp 66), none⟩, ⟨some 9, .mov (.const (.int .i64 21)), none⟩] [8, 9]) .ret) (.seq (.ops [⟨some 68, .mov (.tmp 13), none⟩, ⟨some 69, .bin .lss (.tmp 68) (.const (.int .i64 1)), none⟩, ⟨some 67, .mov (.tmp 69), none⟩] [0, 1, 8, 13, 67]) (.cond (.tmp 67) (.seq (.ops [⟨some 70, .build [.int .u8 0, .int .u8 0, .int .u8 0, .int .u8 0, .int .u8 0] [], none⟩, ⟨none, .st 5 (.tmp 8) (.tmp 70), none⟩, ⟨some 9, .mov (.const (.int .i64 0)), none⟩] [8, 9]) .ret) .skip))))) (.seq (.ops [⟨some 71, .mov (.tmp 1), none⟩, ⟨some 72, .bin .andNot (.tmp 71) (.const (.int .u64 2147483648)), none⟩, ⟨some 1, .mov (.tmp 72), none⟩] [0, 1, 8, 13]) (.seq (.seq (.ops [⟨some 73, .mov (.tmp 0), none⟩] [1, 8, 13, 73]) (.cond (.tmp 73) (.ops [⟨some 74, .mov (.tmp 1), none⟩, ⟨some 75, .bin .or (.tmp 74) (.const (.int .u64 2147483648)), none⟩, ⟨some 1, .mov (.tmp 75), none⟩] [1, 8, 13]) .skip)) (.seq (.ops [⟨some 76, .mov (.tmp 13), none⟩, ⟨some 77, .conv .u8 (.tmp 76), none⟩, ⟨some 78, .mov (.tmp 1), none⟩, ⟨some 79, .bin .shr (.tmp 78) (.const (.int .u64 24)), none⟩, ⟨some 80, .conv .u8 (.tmp 79), none⟩, ⟨some 81, .mov (.tmp 1), none⟩, ⟨some 82, .bin .shr (.tmp 81) (.const (.int .u64 16)), none⟩, ⟨some 83, .conv .u8 (.tmp 82), none⟩, ⟨some 84, .mov (.tmp 1), none⟩, ⟨some 85, .bin .shr (.tmp 84) (.const (.int .u64 8)), none⟩, ⟨some 86, .conv .u8 (.tmp 85), none⟩, ⟨some 87, .mov (.tmp 1), none⟩, ⟨some 88, .conv .u8 (.tmp 87), none⟩, ⟨some 89, .build [.int .u8 0, .int .u8 0, .int .u8 0, .int .u8 0, .int .u8 0] [(0, 1, .tmp 77), (1, 1, .tmp 80), (2, 1, .tmp 83), (3, 1, .tmp 86), (4, 1, .tmp 88)], none⟩, ⟨none, .st 5 (.tmp 8) (.tmp 89), none⟩, ⟨some 9, .mov (.const (.int .i64 0)), none⟩] [8, 9]) .ret))))) : XCode) = T
  by_cases hL : bl m ≤ 32
  · have c1 : (bl m : Int) - 32 ≤ 0 := by omega
    have w2 := wrI (-((bl m : Int) - 32)) (by omega) (by omega)
    have c2 : ¬ (-((bl m : Int) - 32)) < 0 := by omega
    have m1 : min (Int.toNat (-((bl m : Int) - 32))) IntKind.u64.bits = 32 - bl m := by show min _ 64 = _; omega
    have hlow := low32 m h0 hL
    have w3 : IntKind.u64.wrap ((m : Int) * 2 ^ (32 - bl m)) = ((m * 2 ^ (32 - bl m) : Nat) : Int) := by
      rw [show (m : Int) * 2 ^ (32 - bl m) = ((m * 2 ^ (32 - bl m) : Nat) : Int) by rw [Int.natCast_mul, Int.natCast_pow]; rfl, wrU _ (by omega)]
    have hp : pkm m more = (m * 2 ^ (32 - bl m), (bl m : Int) - 32) := by unfold pkm; rw [if_pos hL]
    rw [hp] at hq
    simp only [ofArgs, run_seq, run_block, run_ops, run_skip, run_exit, run_ret, thenQ_normal, thenQ_exit, thenQ_ret, blockQ_normal, blockQ_exit, blockQ_ret, retQ_ret, retQ_normal, ops_nil, ops_none, got_some, ops_wT, ops_wTn, ops_wF, ops_wFn, ops_wU, dops_wT, dops_wTn, dops_wF, dops_wFn, dops_wU, run_condT, run_condF, alt2_int, altB_bool, altI_int, altBB_bool, v_min, v_max, v_not, v_neg, optEv_none, optEv_some, isSome'_none, isSome'_some, pExt0, pExt1, pExt2, Bool.false_and, Bool.true_and, Bool.not_true, Bool.not_false, cond_true, cond_false, dops_nil, dops_none, xval_call, v_mov, v_bin, v_len, v_ext, v_idxA, v_ld, v_st, v_app, v_appN, v_cvs, v_bs1, pBs1, v_slc, v_conv, v_fld, v_fldA, v_new, v_box, v_mks, v_copy, v_isnil, v_nilck, v_pick, ev, evs_nil, evs_cons, fr_get_cons, fr_put_nil, fr_put_cons, fr_put_some, fr_put_none, fr_keep_nil, fr_keep_cons, fr_has_nil, fr_has_cons, Option.bind_some, Option.map_some, xbin, ibin, xresult_eq, xress_nil, xress_tmp, resV, ex_some, if_true, if_false, ite_true, ite_false, reduceIte, reduceCtorEq, Nat.reduceEqDiff, Nat.reduceLT, Nat.reduceLeDiff, Int.reduceLT, Int.reduceLE, Nat.zero_add, Nat.reduceAdd, Bool.false_eq_true, decide_eq_true_eq, decide_eq_false_iff_not, true_implies, false_implies, and_true, true_and, c0, e1, w1, c1, decide_true, v_neg, w2, c2, m1, w3]
    subst hT
    exact pk_tail s _ hlow.1 hlow.2 exp _ x1 x2 (by omega) (by omega) H Q hq
  · have c1 : ¬ (bl m : Int) - 32 ≤ 0 := by omega
    have htop := top32 m hL
    obtain ⟨n, hn⟩ : ∃ n, bl m = n + 33 := ⟨bl m - 33, by omega⟩
    have hn32 : bl m - 32 = n + 1 := by omega
    have hN : (bl m : Int) - 32 = ((n + 1 : Nat) : Int) := by omega
    rw [hN] at w1 c1
    rw [hn32] at htop
    have n0 : ¬ ((n + 1 : Nat) : Int) < 0 := by omega
    have mn1 : min (Int.toNat ((n + 1 : Nat) : Int)) IntKind.u64.bits = n + 1 := by rw [Int.toNat_natCast]; show min _ 64 = _; omega
    have w4 := wrI (((n + 1 : Nat) : Int) - 1) (by omega) (by omega)
    have w4' : ((n + 1 : Nat) : Int) - 1 = (n : Int) := by omega
    rw [w4'] at w4
    have n00 : ¬ (n : Int) < 0 := by omega
    have mn0 : min (Int.toNat (n : Int)) IntKind.u64.bits = n := by rw [Int.toNat_natCast]; show min _ 64 = _; omega
    have pn : (2 : Nat) ^ n < 18446744073709551616 := Nat.lt_of_lt_of_le (Nat.pow_lt_pow_right (by omega) (by omega : n < 32)) (by decide)
    have pn1 : (2 : Nat) ^ (n + 1) < 18446744073709551616 := Nat.lt_of_lt_of_le (Nat.pow_lt_pow_right (by omega) (by omega : n + 1 < 33)) (by decide)
    have pp := Nat.pow_pos (n := n + 1) (by omega : 0 < 2)
    have k1 : IntKind.u64.wrap (1 * 2 ^ (n + 1)) = ((2 ^ (n + 1) : Nat) : Int) := by rw [Int.one_mul, show (2 : Int) ^ (n + 1) = ((2 ^ (n + 1) : Nat) : Int) from (Int.natCast_pow 2 _).symm, wrU _ pn1]
    have k0 : IntKind.u64.wrap (1 * 2 ^ n) = ((2 ^ n : Nat) : Int) := by rw [Int.one_mul, show (2 : Int) ^ n = ((2 ^ n : Nat) : Int) from (Int.natCast_pow 2 _).symm, wrU _ pn]
    have k2 : IntKind.u64.wrap (((2 ^ (n + 1) : Nat) : Int) - 1) = ((2 ^ (n + 1) - 1 : Nat) : Int) := by rw [show ((2 ^ (n + 1) : Nat) : Int) - 1 = ((2 ^ (n + 1) - 1 : Nat) : Int) by omega, wrU _ (by omega)]
    have k3 := u_and m (2 ^ (n + 1) - 1) hm (by omega)
    rw [and_pow] at k3
    have k4 : (m : Int).fdiv (2 ^ (n + 1)) = ((m / 2 ^ (n + 1) : Nat) : Int) := by rw [shrN, Nat.shiftRight_eq_div_pow]
    have k5 := u_and (m / 2 ^ (n + 1)) 1 (by omega) (by omega)
    rw [Nat.and_one_is_mod] at k5
    have n1 : ((1 : Nat) : Int) = 1 := rfl
    rw [n1] at k5
    have k6 : IntKind.u64.wrap (((m / 2 ^ (n + 1) : Nat) : Int) + 1) = ((m / 2 ^ (n + 1) + 1 : Nat) : Int) := by rw [show ((m / 2 ^ (n + 1) : Nat) : Int) + 1 = ((m / 2 ^ (n + 1) + 1 : Nat) : Int) by omega, wrU _ (by omega)]
    have w5 := wrI (((n + 1 : Nat) : Int) + 1) (by omega) (by omega)
    have w5' : ((n + 1 : Nat) : Int) + 1 = (bl m : Int) - 31 := by omega
    rw [w5'] at w5
    have hr : rnd m (n + 1) more = if m % 2 ^ (n + 1) > 2 ^ n ∨ (m % 2 ^ (n + 1) = 2 ^ n ∧ (more = true ∨ m / 2 ^ (n + 1) % 2 = 1)) then m / 2 ^ (n + 1) + 1 else m / 2 ^ (n + 1) := rfl
    have hp : pkm m more = if rnd m (n + 1) more = 4294967296 then (2147483648, (bl m : Int) - 31) else (rnd m (n + 1) more, (bl m : Int) - 32) := by
      unfold pkm; rw [if_neg hL, hn32]
    have hrd : ∀ up : Bool, rnd m (n + 1) more = (if up then m / 2 ^ (n + 1) + 1 else m / 2 ^ (n + 1)) →
        (∀ q : Nat, q = (if up then m / 2 ^ (n + 1) + 1 else m / 2 ^ (n + 1)) → q = 4294967296 → ∀ H', HExt H H' → Q (.tuple #[A5 (enc (fin5 s 2147483648 (exp + ((bl m : Int) - 31) + 160)).1), .int .i64 (fin5 s 2147483648 (exp + ((bl m : Int) - 31) + 160)).2]) H') ∧
        (∀ q : Nat, q = (if up then m / 2 ^ (n + 1) + 1 else m / 2 ^ (n + 1)) → q ≠ 4294967296 → 2147483648 ≤ q ∧ q < 4294967296 ∧ ∀ H', HExt H H' → Q (.tuple #[A5 (enc (fin5 s q (exp + ((n + 1 : Nat) : Int) + 160)).1), .int .i64 (fin5 s q (exp + ((n + 1 : Nat) : Int) + 160)).2]) H') := by
      intro up h
      rw [h] at hp
      refine ⟨fun q hq1 hq2 => ?_, fun q hq1 hq2 => ?_⟩
      · rw [← hq1, if_pos hq2] at hp
        rw [hp] at hq
        exact hq
      · rw [← hq1, if_neg hq2, hN] at hp
        rw [hp] at hq ho
        exact ⟨ho.1, ho.2, hq⟩
    clear hq ho hp
    have two : ((4294967296 : Nat) : Int) = 4294967296 := rfl
    have t31 : ((2147483648 : Nat) : Int) = 2147483648 := rfl
    by_cases hgt : m % 2 ^ (n + 1) > 2 ^ n
    · have f1 : ((m % 2 ^ (n + 1) : Nat) : Int) > ((2 ^ n : Nat) : Int) := by omega
      obtain ⟨g1, g2⟩ := hrd true (by rw [hr, if_pos (by first | exact .inl hgt | exact .inr ⟨heq, .inl rfl⟩ | exact .inr ⟨heq, .inr hod⟩)]; rfl)
      by_cases hc : (m / 2 ^ (n + 1) + 1 : Nat) = 4294967296
      · have ceq : (((m / 2 ^ (n + 1) + 1 : Nat) : Int) == 4294967296) = true := by rw [hc]; rfl
        have g := g1 (m / 2 ^ (n + 1) + 1) rfl hc
        simp only [ofArgs, run_seq, run_block, run_ops, run_skip, run_exit, run_ret, thenQ_normal, thenQ_exit, thenQ_ret, blockQ_normal, blockQ_exit, blockQ_ret, retQ_ret, retQ_normal, ops_nil, ops_none, got_some, ops_wT, ops_wTn, ops_wF, ops_wFn, ops_wU, dops_wT, dops_wTn, dops_wF, dops_wFn, dops_wU, run_condT, run_condF, alt2_int, altB_bool, altI_int, altBB_bool, v_min, v_max, v_not, v_neg, optEv_none, optEv_some, isSome'_none, isSome'_some, pExt0, pExt1, pExt2, Bool.false_and, Bool.true_and, Bool.not_true, Bool.not_false, cond_true, cond_false, dops_nil, dops_none, xval_call, v_mov, v_bin, v_len, v_ext, v_idxA, v_ld, v_st, v_app, v_appN, v_cvs, v_bs1, pBs1, v_slc, v_conv, v_fld, v_fldA, v_new, v_box, v_mks, v_copy, v_isnil, v_nilck, v_pick, ev, evs_nil, evs_cons, fr_get_cons, fr_put_nil, fr_put_cons, fr_put_some, fr_put_none, fr_keep_nil, fr_keep_cons, fr_has_nil, fr_has_cons, Option.bind_some, Option.map_some, xbin, ibin, xresult_eq, xress_nil, xress_tmp, resV, ex_some, if_true, if_false, ite_true, ite_false, reduceIte, reduceCtorEq, Nat.reduceEqDiff, Nat.reduceLT, Nat.reduceLeDiff, Int.reduceLT, Int.reduceLE, Nat.zero_add, Nat.reduceAdd, Bool.false_eq_true, decide_eq_true_eq, decide_eq_false_iff_not, true_implies, false_implies, and_true, true_and, c0, e1, hN, w1, c1, decide_false]
        refine run_dops _ _ _ _ _ rfl ?_
        simp only [ofArgs, run_seq, run_block, run_ops, run_skip, run_exit, run_ret, thenQ_normal, thenQ_exit, thenQ_ret, blockQ_normal, blockQ_exit, blockQ_ret, retQ_ret, retQ_normal, ops_nil, ops_none, got_some, ops_wT, ops_wTn, ops_wF, ops_wFn, ops_wU, dops_wT, dops_wTn, dops_wF, dops_wFn, dops_wU, run_condT, run_condF, alt2_int, altB_bool, altI_int, altBB_bool, v_min, v_max, v_not, v_neg, optEv_none, optEv_some, isSome'_none, isSome'_some, pExt0, pExt1, pExt2, Bool.false_and, Bool.true_and, Bool.not_true, Bool.not_false, cond_true, cond_false, dops_nil, dops_none, xval_call, v_mov, v_bin, v_len, v_ext, v_idxA, v_ld, v_st, v_app, v_appN, v_cvs, v_bs1, pBs1, v_slc, v_conv, v_fld, v_fldA, v_new, v_box, v_mks, v_copy, v_isnil, v_nilck, v_pick, ev, evs_nil, evs_cons, fr_get_cons, fr_put_nil, fr_put_cons, fr_put_some, fr_put_none, fr_keep_nil, fr_keep_cons, fr_has_nil, fr_has_cons, Option.bind_some, Option.map_some, xbin, ibin, xresult_eq, xress_nil, xress_tmp, resV, ex_some, if_true, if_false, ite_true, ite_false, reduceIte, reduceCtorEq, Nat.reduceEqDiff, Nat.reduceLT, Nat.reduceLeDiff, Int.reduceLT, Int.reduceLE, Nat.zero_add, Nat.reduceAdd, Bool.false_eq_true, decide_eq_true_eq, decide_eq_false_iff_not, true_implies, false_implies, and_true, true_and, n0, mn1, k1, k2, k3, w4, w4', n00, mn0, k0, k4, f1, decide_true, k6, ceq, w5, w5']
        subst hT
        exact pk_tail s 2147483648 (Nat.le_refl _) (by omega) exp _ x1 x2 (by omega) (by omega) H Q g
      · have ceq : (((m / 2 ^ (n + 1) + 1 : Nat) : Int) == 4294967296) = false := beq_eq_false_iff_ne.2 fun h => hc (Int.ofNat.inj h)
        obtain ⟨g, gl, gg⟩ := g2 (m / 2 ^ (n + 1) + 1) rfl hc
        simp only [ofArgs, run_seq, run_block, run_ops, run_skip, run_exit, run_ret, thenQ_normal, thenQ_exit, thenQ_ret, blockQ_normal, blockQ_exit, blockQ_ret, retQ_ret, retQ_normal, ops_nil, ops_none, got_some, ops_wT, ops_wTn, ops_wF, ops_wFn, ops_wU, dops_wT, dops_wTn, dops_wF, dops_wFn, dops_wU, run_condT, run_condF, alt2_int, altB_bool, altI_int, altBB_bool, v_min, v_max, v_not, v_neg, optEv_none, optEv_some, isSome'_none, isSome'_some, pExt0, pExt1, pExt2, Bool.false_and, Bool.true_and, Bool.not_true, Bool.not_false, cond_true, cond_false, dops_nil, dops_none, xval_call, v_mov, v_bin, v_len, v_ext, v_idxA, v_ld, v_st, v_app, v_appN, v_cvs, v_bs1, pBs1, v_slc, v_conv, v_fld, v_fldA, v_new, v_box, v_mks, v_copy, v_isnil, v_nilck, v_pick, ev, evs_nil, evs_cons, fr_get_cons, fr_put_nil, fr_put_cons, fr_put_some, fr_put_none, fr_keep_nil, fr_keep_cons, fr_has_nil, fr_has_cons, Option.bind_some, Option.map_some, xbin, ibin, xresult_eq, xress_nil, xress_tmp, resV, ex_some, if_true, if_false, ite_true, ite_false, reduceIte, reduceCtorEq, Nat.reduceEqDiff, Nat.reduceLT, Nat.reduceLeDiff, Int.reduceLT, Int.reduceLE, Nat.zero_add, Nat.reduceAdd, Bool.false_eq_true, decide_eq_true_eq, decide_eq_false_iff_not, true_implies, false_implies, and_true, true_and, c0, e1, hN, w1, c1, decide_false]
        refine run_dops _ _ _ _ _ rfl ?_
        simp only [ofArgs, run_seq, run_block, run_ops, run_skip, run_exit, run_ret, thenQ_normal, thenQ_exit, thenQ_ret, blockQ_normal, blockQ_exit, blockQ_ret, retQ_ret, retQ_normal, ops_nil, ops_none, got_some, ops_wT, ops_wTn, ops_wF, ops_wFn, ops_wU, dops_wT, dops_wTn, dops_wF, dops_wFn, dops_wU, run_condT, run_condF, alt2_int, altB_bool, altI_int, altBB_bool, v_min, v_max, v_not, v_neg, optEv_none, optEv_some, isSome'_none, isSome'_some, pExt0, pExt1, pExt2, Bool.false_and, Bool.true_and, Bool.not_true, Bool.not_false, cond_true, cond_false, dops_nil, dops_none, xval_call, v_mov, v_bin, v_len, v_ext, v_idxA, v_ld, v_st, v_app, v_appN, v_cvs, v_bs1, pBs1, v_slc, v_conv, v_fld, v_fldA, v_new, v_box, v_mks, v_copy, v_isnil, v_nilck, v_pick, ev, evs_nil, evs_cons, fr_get_cons, fr_put_nil, fr_put_cons, fr_put_some, fr_put_none, fr_keep_nil, fr_keep_cons, fr_has_nil, fr_has_cons, Option.bind_some, Option.map_some, xbin, ibin, xresult_eq, xress_nil, xress_tmp, resV, ex_some, if_true, if_false, ite_true, ite_false, reduceIte, reduceCtorEq, Nat.reduceEqDiff, Nat.reduceLT, Nat.reduceLeDiff, Int.reduceLT, Int.reduceLE, Nat.zero_add, Nat.reduceAdd, Bool.false_eq_true, decide_eq_true_eq, decide_eq_false_iff_not, true_implies, false_implies, and_true, true_and, n0, mn1, k1, k2, k3, w4, w4', n00, mn0, k0, k4, f1, decide_true, k6, ceq, w5, w5']
        subst hT
        exact pk_tail2 s _ g gl exp _ x1 x2 (by omega) (by omega) H Q gg
    have f1 : ¬ ((m % 2 ^ (n + 1) : Nat) : Int) > ((2 ^ n : Nat) : Int) := by omega
    by_cases heq : m % 2 ^ (n + 1) = 2 ^ n
    · have f2 : (((m % 2 ^ (n + 1) : Nat) : Int) == ((2 ^ n : Nat) : Int)) = true := by rw [heq]; exact beq_self_eq_true _
      cases more
      · by_cases hod : m / 2 ^ (n + 1) % 2 = 1
        · have f3 : (((m / 2 ^ (n + 1) % 2 : Nat) : Int) == 1) = true := by rw [hod]; rfl
          obtain ⟨g1, g2⟩ := hrd true (by rw [hr, if_pos (by first | exact .inl hgt | exact .inr ⟨heq, .inl rfl⟩ | exact .inr ⟨heq, .inr hod⟩)]; rfl)
          by_cases hc : (m / 2 ^ (n + 1) + 1 : Nat) = 4294967296
          · have ceq : (((m / 2 ^ (n + 1) + 1 : Nat) : Int) == 4294967296) = true := by rw [hc]; rfl
            have g := g1 (m / 2 ^ (n + 1) + 1) rfl hc
            simp only [ofArgs, run_seq, run_block, run_ops, run_skip, run_exit, run_ret, thenQ_normal, thenQ_exit, thenQ_ret, blockQ_normal, blockQ_exit, blockQ_ret, retQ_ret, retQ_normal, ops_nil, ops_none, got_some, ops_wT, ops_wTn, ops_wF, ops_wFn, ops_wU, dops_wT, dops_wTn, dops_wF, dops_wFn, dops_wU, run_condT, run_condF, alt2_int, altB_bool, altI_int, altBB_bool, v_min, v_max, v_not, v_neg, optEv_none, optEv_some, isSome'_none, isSome'_some, pExt0, pExt1, pExt2, Bool.false_and, Bool.true_and, Bool.not_true, Bool.not_false, cond_true, cond_false, dops_nil, dops_none, xval_call, v_mov, v_bin, v_len, v_ext, v_idxA, v_ld, v_st, v_app, v_appN, v_cvs, v_bs1, pBs1, v_slc, v_conv, v_fld, v_fldA, v_new, v_box, v_mks, v_copy, v_isnil, v_nilck, v_pick, ev, evs_nil, evs_cons, fr_get_cons, fr_put_nil, fr_put_cons, fr_put_some, fr_put_none, fr_keep_nil, fr_keep_cons, fr_has_nil, fr_has_cons, Option.bind_some, Option.map_some, xbin, ibin, xresult_eq, xress_nil, xress_tmp, resV, ex_some, if_true, if_false, ite_true, ite_false, reduceIte, reduceCtorEq, Nat.reduceEqDiff, Nat.reduceLT, Nat.reduceLeDiff, Int.reduceLT, Int.reduceLE, Nat.zero_add, Nat.reduceAdd, Bool.false_eq_true, decide_eq_true_eq, decide_eq_false_iff_not, true_implies, false_implies, and_true, true_and, c0, e1, hN, w1, c1, decide_false]
            refine run_dops _ _ _ _ _ rfl ?_
            simp only [ofArgs, run_seq, run_block, run_ops, run_skip, run_exit, run_ret, thenQ_normal, thenQ_exit, thenQ_ret, blockQ_normal, blockQ_exit, blockQ_ret, retQ_ret, retQ_normal, ops_nil, ops_none, got_some, ops_wT, ops_wTn, ops_wF, ops_wFn, ops_wU, dops_wT, dops_wTn, dops_wF, dops_wFn, dops_wU, run_condT, run_condF, alt2_int, altB_bool, altI_int, altBB_bool, v_min, v_max, v_not, v_neg, optEv_none, optEv_some, isSome'_none, isSome'_some, pExt0, pExt1, pExt2, Bool.false_and, Bool.true_and, Bool.not_true, Bool.not_false, cond_true, cond_false, dops_nil, dops_none, xval_call, v_mov, v_bin, v_len, v_ext, v_idxA, v_ld, v_st, v_app, v_appN, v_cvs, v_bs1, pBs1, v_slc, v_conv, v_fld, v_fldA, v_new, v_box, v_mks, v_copy, v_isnil, v_nilck, v_pick, ev, evs_nil, evs_cons, fr_get_cons, fr_put_nil, fr_put_cons, fr_put_some, fr_put_none, fr_keep_nil, fr_keep_cons, fr_has_nil, fr_has_cons, Option.bind_some, Option.map_some, xbin, ibin, xresult_eq, xress_nil, xress_tmp, resV, ex_some, if_true, if_false, ite_true, ite_false, reduceIte, reduceCtorEq, Nat.reduceEqDiff, Nat.reduceLT, Nat.reduceLeDiff, Int.reduceLT, Int.reduceLE, Nat.zero_add, Nat.reduceAdd, Bool.false_eq_true, decide_eq_true_eq, decide_eq_false_iff_not, true_implies, false_implies, and_true, true_and, n0, mn1, k1, k2, k3, w4, w4', n00, mn0, k0, k4, f1, f2, f3, decide_false, k5, k6, ceq, w5, w5']
            subst hT
            exact pk_tail s 2147483648 (Nat.le_refl _) (by omega) exp _ x1 x2 (by omega) (by omega) H Q g
          · have ceq : (((m / 2 ^ (n + 1) + 1 : Nat) : Int) == 4294967296) = false := beq_eq_false_iff_ne.2 fun h => hc (Int.ofNat.inj h)
            obtain ⟨g, gl, gg⟩ := g2 (m / 2 ^ (n + 1) + 1) rfl hc
            simp only [ofArgs, run_seq, run_block, run_ops, run_skip, run_exit, run_ret, thenQ_normal, thenQ_exit, thenQ_ret, blockQ_normal, blockQ_exit, blockQ_ret, retQ_ret, retQ_normal, ops_nil, ops_none, got_some, ops_wT, ops_wTn, ops_wF, ops_wFn, ops_wU, dops_wT, dops_wTn, dops_wF, dops_wFn, dops_wU, run_condT, run_condF, alt2_int, altB_bool, altI_int, altBB_bool, v_min, v_max, v_not, v_neg, optEv_none, optEv_some, isSome'_none, isSome'_some, pExt0, pExt1, pExt2, Bool.false_and, Bool.true_and, Bool.not_true, Bool.not_false, cond_true, cond_false, dops_nil, dops_none, xval_call, v_mov, v_bin, v_len, v_ext, v_idxA, v_ld, v_st, v_app, v_appN, v_cvs, v_bs1, pBs1, v_slc, v_conv, v_fld, v_fldA, v_new, v_box, v_mks, v_copy, v_isnil, v_nilck, v_pick, ev, evs_nil, evs_cons, fr_get_cons, fr_put_nil, fr_put_cons, fr_put_some, fr_put_none, fr_keep_nil, fr_keep_cons, fr_has_nil, fr_has_cons, Option.bind_some, Option.map_some, xbin, ibin, xresult_eq, xress_nil, xress_tmp, resV, ex_some, if_true, if_false, ite_true, ite_false, reduceIte, reduceCtorEq, Nat.reduceEqDiff, Nat.reduceLT, Nat.reduceLeDiff, Int.reduceLT, Int.reduceLE, Nat.zero_add, Nat.reduceAdd, Bool.false_eq_true, decide_eq_true_eq, decide_eq_false_iff_not, true_implies, false_implies, and_true, true_and, c0, e1, hN, w1, c1, decide_false]
            refine run_dops _ _ _ _ _ rfl ?_
            simp only [ofArgs, run_seq, run_block, run_ops, run_skip, run_exit, run_ret, thenQ_normal, thenQ_exit, thenQ_ret, blockQ_normal, blockQ_exit, blockQ_ret, retQ_ret, retQ_normal, ops_nil, ops_none, got_some, ops_wT, ops_wTn, ops_wF, ops_wFn, ops_wU, dops_wT, dops_wTn, dops_wF, dops_wFn, dops_wU, run_condT, run_condF, alt2_int, altB_bool, altI_int, altBB_bool, v_min, v_max, v_not, v_neg, optEv_none, optEv_some, isSome'_none, isSome'_some, pExt0, pExt1, pExt2, Bool.false_and, Bool.true_and, Bool.not_true, Bool.not_false, cond_true, cond_false, dops_nil, dops_none, xval_call, v_mov, v_bin, v_len, v_ext, v_idxA, v_ld, v_st, v_app, v_appN, v_cvs, v_bs1, pBs1, v_slc, v_conv, v_fld, v_fldA, v_new, v_box, v_mks, v_copy, v_isnil, v_nilck, v_pick, ev, evs_nil, evs_cons, fr_get_cons, fr_put_nil, fr_put_cons, fr_put_some, fr_put_none, fr_keep_nil, fr_keep_cons, fr_has_nil, fr_has_cons, Option.bind_some, Option.map_some, xbin, ibin, xresult_eq, xress_nil, xress_tmp, resV, ex_some, if_true, if_false, ite_true, ite_false, reduceIte, reduceCtorEq, Nat.reduceEqDiff, Nat.reduceLT, Nat.reduceLeDiff, Int.reduceLT, Int.reduceLE, Nat.zero_add, Nat.reduceAdd, Bool.false_eq_true, decide_eq_true_eq, decide_eq_false_iff_not, true_implies, false_implies, and_true, true_and, n0, mn1, k1, k2, k3, w4, w4', n00, mn0, k0, k4, f1, f2, f3, decide_false, k5, k6, ceq, w5, w5']
            subst hT
            exact pk_tail2 s _ g gl exp _ x1 x2 (by omega) (by omega) H Q gg
        · have f3 : (((m / 2 ^ (n + 1) % 2 : Nat) : Int) == 1) = false := beq_eq_false_iff_ne.2 fun h => hod (Int.ofNat.inj h)
          obtain ⟨g1, g2⟩ := hrd false (by rw [hr, if_neg (by intro h; rcases h with h | ⟨h, h3⟩ <;> first | omega | (rcases h3 with h3 | h3 <;> first | omega | cases h3))]; rfl)
          by_cases hc : (m / 2 ^ (n + 1) : Nat) = 4294967296
          · have ceq : (((m / 2 ^ (n + 1) : Nat) : Int) == 4294967296) = true := by rw [hc]; rfl
            have g := g1 (m / 2 ^ (n + 1)) rfl hc
            simp only [ofArgs, run_seq, run_block, run_ops, run_skip, run_exit, run_ret, thenQ_normal, thenQ_exit, thenQ_ret, blockQ_normal, blockQ_exit, blockQ_ret, retQ_ret, retQ_normal, ops_nil, ops_none, got_some, ops_wT, ops_wTn, ops_wF, ops_wFn, ops_wU, dops_wT, dops_wTn, dops_wF, dops_wFn, dops_wU, run_condT, run_condF, alt2_int, altB_bool, altI_int, altBB_bool, v_min, v_max, v_not, v_neg, optEv_none, optEv_some, isSome'_none, isSome'_some, pExt0, pExt1, pExt2, Bool.false_and, Bool.true_and, Bool.not_true, Bool.not_false, cond_true, cond_false, dops_nil, dops_none, xval_call, v_mov, v_bin, v_len, v_ext, v_idxA, v_ld, v_st, v_app, v_appN, v_cvs, v_bs1, pBs1, v_slc, v_conv, v_fld, v_fldA, v_new, v_box, v_mks, v_copy, v_isnil, v_nilck, v_pick, ev, evs_nil, evs_cons, fr_get_cons, fr_put_nil, fr_put_cons, fr_put_some, fr_put_none, fr_keep_nil, fr_keep_cons, fr_has_nil, fr_has_cons, Option.bind_some, Option.map_some, xbin, ibin, xresult_eq, xress_nil, xress_tmp, resV, ex_some, if_true, if_false, ite_true, ite_false, reduceIte, reduceCtorEq, Nat.reduceEqDiff, Nat.reduceLT, Nat.reduceLeDiff, Int.reduceLT, Int.reduceLE, Nat.zero_add, Nat.reduceAdd, Bool.false_eq_true, decide_eq_true_eq, decide_eq_false_iff_not, true_implies, false_implies, and_true, true_and, c0, e1, hN, w1, c1, decide_false]
            refine run_dops _ _ _ _ _ rfl ?_
            simp only [ofArgs, run_seq, run_block, run_ops, run_skip, run_exit, run_ret, thenQ_normal, thenQ_exit, thenQ_ret, blockQ_normal, blockQ_exit, blockQ_ret, retQ_ret, retQ_normal, ops_nil, ops_none, got_some, ops_wT, ops_wTn, ops_wF, ops_wFn, ops_wU, dops_wT, dops_wTn, dops_wF, dops_wFn, dops_wU, run_condT, run_condF, alt2_int, altB_bool, altI_int, altBB_bool, v_min, v_max, v_not, v_neg, optEv_none, optEv_some, isSome'_none, isSome'_some, pExt0, pExt1, pExt2, Bool.false_and, Bool.true_and, Bool.not_true, Bool.not_false, cond_true, cond_false, dops_nil, dops_none, xval_call, v_mov, v_bin, v_len, v_ext, v_idxA, v_ld, v_st, v_app, v_appN, v_cvs, v_bs1, pBs1, v_slc, v_conv, v_fld, v_fldA, v_new, v_box, v_mks, v_copy, v_isnil, v_nilck, v_pick, ev, evs_nil, evs_cons, fr_get_cons, fr_put_nil, fr_put_cons, fr_put_some, fr_put_none, fr_keep_nil, fr_keep_cons, fr_has_nil, fr_has_cons, Option.bind_some, Option.map_some, xbin, ibin, xresult_eq, xress_nil, xress_tmp, resV, ex_some, if_true, if_false, ite_true, ite_false, reduceIte, reduceCtorEq, Nat.reduceEqDiff, Nat.reduceLT, Nat.reduceLeDiff, Int.reduceLT, Int.reduceLE, Nat.zero_add, Nat.reduceAdd, Bool.false_eq_true, decide_eq_true_eq, decide_eq_false_iff_not, true_implies, false_implies, and_true, true_and, n0, mn1, k1, k2, k3, w4, w4', n00, mn0, k0, k4, f1, f2, f3, decide_false, k5, ceq, w5, w5']
            subst hT
            exact pk_tail s 2147483648 (Nat.le_refl _) (by omega) exp _ x1 x2 (by omega) (by omega) H Q g
          · have ceq : (((m / 2 ^ (n + 1) : Nat) : Int) == 4294967296) = false := beq_eq_false_iff_ne.2 fun h => hc (Int.ofNat.inj h)
            obtain ⟨g, gl, gg⟩ := g2 (m / 2 ^ (n + 1)) rfl hc
            simp only [ofArgs, run_seq, run_block, run_ops, run_skip, run_exit, run_ret, thenQ_normal, thenQ_exit, thenQ_ret, blockQ_normal, blockQ_exit, blockQ_ret, retQ_ret, retQ_normal, ops_nil, ops_none, got_some, ops_wT, ops_wTn, ops_wF, ops_wFn, ops_wU, dops_wT, dops_wTn, dops_wF, dops_wFn, dops_wU, run_condT, run_condF, alt2_int, altB_bool, altI_int, altBB_bool, v_min, v_max, v_not, v_neg, optEv_none, optEv_some, isSome'_none, isSome'_some, pExt0, pExt1, pExt2, Bool.false_and, Bool.true_and, Bool.not_true, Bool.not_false, cond_true, cond_false, dops_nil, dops_none, xval_call, v_mov, v_bin, v_len, v_ext, v_idxA, v_ld, v_st, v_app, v_appN, v_cvs, v_bs1, pBs1, v_slc, v_conv, v_fld, v_fldA, v_new, v_box, v_mks, v_copy, v_isnil, v_nilck, v_pick, ev, evs_nil, evs_cons, fr_get_cons, fr_put_nil, fr_put_cons, fr_put_some, fr_put_none, fr_keep_nil, fr_keep_cons, fr_has_nil, fr_has_cons, Option.bind_some, Option.map_some, xbin, ibin, xresult_eq, xress_nil, xress_tmp, resV, ex_some, if_true, if_false, ite_true, ite_false, reduceIte, reduceCtorEq, Nat.reduceEqDiff, Nat.reduceLT, Nat.reduceLeDiff, Int.reduceLT, Int.reduceLE, Nat.zero_add, Nat.reduceAdd, Bool.false_eq_true, decide_eq_true_eq, decide_eq_false_iff_not, true_implies, false_implies, and_true, true_and, c0, e1, hN, w1, c1, decide_false]
            refine run_dops _ _ _ _ _ rfl ?_
            simp only [ofArgs, run_seq, run_block, run_ops, run_skip, run_exit, run_ret, thenQ_normal, thenQ_exit, thenQ_ret, blockQ_normal, blockQ_exit, blockQ_ret, retQ_ret, retQ_normal, ops_nil, ops_none, got_some, ops_wT, ops_wTn, ops_wF, ops_wFn, ops_wU, dops_wT, dops_wTn, dops_wF, dops_wFn, dops_wU, run_condT, run_condF, alt2_int, altB_bool, altI_int, altBB_bool, v_min, v_max, v_not, v_neg, optEv_none, optEv_some, isSome'_none, isSome'_some, pExt0, pExt1, pExt2, Bool.false_and, Bool.true_and, Bool.not_true, Bool.not_false, cond_true, cond_false, dops_nil, dops_none, xval_call, v_mov, v_bin, v_len, v_ext, v_idxA, v_ld, v_st, v_app, v_appN, v_cvs, v_bs1, pBs1, v_slc, v_conv, v_fld, v_fldA, v_new, v_box, v_mks, v_copy, v_isnil, v_nilck, v_pick, ev, evs_nil, evs_cons, fr_get_cons, fr_put_nil, fr_put_cons, fr_put_some, fr_put_none, fr_keep_nil, fr_keep_cons, fr_has_nil, fr_has_cons, Option.bind_some, Option.map_some, xbin, ibin, xresult_eq, xress_nil, xress_tmp, resV, ex_some, if_true, if_false, ite_true, ite_false, reduceIte, reduceCtorEq, Nat.reduceEqDiff, Nat.reduceLT, Nat.reduceLeDiff, Int.reduceLT, Int.reduceLE, Nat.zero_add, Nat.reduceAdd, Bool.false_eq_true, decide_eq_true_eq, decide_eq_false_iff_not, true_implies, false_implies, and_true, true_and, n0, mn1, k1, k2, k3, w4, w4', n00, mn0, k0, k4, f1, f2, f3, decide_false, k5, ceq, w5, w5']
            subst hT
            exact pk_tail2 s _ g gl exp _ x1 x2 (by omega) (by omega) H Q gg
      · obtain ⟨g1, g2⟩ := hrd true (by rw [hr, if_pos (by first | exact .inl hgt | exact .inr ⟨heq, .inl rfl⟩ | exact .inr ⟨heq, .inr hod⟩)]; rfl)
        by_cases hc : (m / 2 ^ (n + 1) + 1 : Nat) = 4294967296
        · have ceq : (((m / 2 ^ (n + 1) + 1 : Nat) : Int) == 4294967296) = true := by rw [hc]; rfl
          have g := g1 (m / 2 ^ (n + 1) + 1) rfl hc
          simp only [ofArgs, run_seq, run_block, run_ops, run_skip, run_exit, run_ret, thenQ_normal, thenQ_exit, thenQ_ret, blockQ_normal, blockQ_exit, blockQ_ret, retQ_ret, retQ_normal, ops_nil, ops_none, got_some, ops_wT, ops_wTn, ops_wF, ops_wFn, ops_wU, dops_wT, dops_wTn, dops_wF, dops_wFn, dops_wU, run_condT, run_condF, alt2_int, altB_bool, altI_int, altBB_bool, v_min, v_max, v_not, v_neg, optEv_none, optEv_some, isSome'_none, isSome'_some, pExt0, pExt1, pExt2, Bool.false_and, Bool.true_and, Bool.not_true, Bool.not_false, cond_true, cond_false, dops_nil, dops_none, xval_call, v_mov, v_bin, v_len, v_ext, v_idxA, v_ld, v_st, v_app, v_appN, v_cvs, v_bs1, pBs1, v_slc, v_conv, v_fld, v_fldA, v_new, v_box, v_mks, v_copy, v_isnil, v_nilck, v_pick, ev, evs_nil, evs_cons, fr_get_cons, fr_put_nil, fr_put_cons, fr_put_some, fr_put_none, fr_keep_nil, fr_keep_cons, fr_has_nil, fr_has_cons, Option.bind_some, Option.map_some, xbin, ibin, xresult_eq, xress_nil, xress_tmp, resV, ex_some, if_true, if_false, ite_true, ite_false, reduceIte, reduceCtorEq, Nat.reduceEqDiff, Nat.reduceLT, Nat.reduceLeDiff, Int.reduceLT, Int.reduceLE, Nat.zero_add, Nat.reduceAdd, Bool.false_eq_true, decide_eq_true_eq, decide_eq_false_iff_not, true_implies, false_implies, and_true, true_and, c0, e1, hN, w1, c1, decide_false]
          refine run_dops _ _ _ _ _ rfl ?_
          simp only [ofArgs, run_seq, run_block, run_ops, run_skip, run_exit, run_ret, thenQ_normal, thenQ_exit, thenQ_ret, blockQ_normal, blockQ_exit, blockQ_ret, retQ_ret, retQ_normal, ops_nil, ops_none, got_some, ops_wT, ops_wTn, ops_wF, ops_wFn, ops_wU, dops_wT, dops_wTn, dops_wF, dops_wFn, dops_wU, run_condT, run_condF, alt2_int, altB_bool, altI_int, altBB_bool, v_min, v_max, v_not, v_neg, optEv_none, optEv_some, isSome'_none, isSome'_some, pExt0, pExt1, pExt2, Bool.false_and, Bool.true_and, Bool.not_true, Bool.not_false, cond_true, cond_false, dops_nil, dops_none, xval_call, v_mov, v_bin, v_len, v_ext, v_idxA, v_ld, v_st, v_app, v_appN, v_cvs, v_bs1, pBs1, v_slc, v_conv, v_fld, v_fldA, v_new, v_box, v_mks, v_copy, v_isnil, v_nilck, v_pick, ev, evs_nil, evs_cons, fr_get_cons, fr_put_nil, fr_put_cons, fr_put_some, fr_put_none, fr_keep_nil, fr_keep_cons, fr_has_nil, fr_has_cons, Option.bind_some, Option.map_some, xbin, ibin, xresult_eq, xress_nil, xress_tmp, resV, ex_some, if_true, if_false, ite_true, ite_false, reduceIte, reduceCtorEq, Nat.reduceEqDiff, Nat.reduceLT, Nat.reduceLeDiff, Int.reduceLT, Int.reduceLE, Nat.zero_add, Nat.reduceAdd, Bool.false_eq_true, decide_eq_true_eq, decide_eq_false_iff_not, true_implies, false_implies, and_true, true_and, n0, mn1, k1, k2, k3, w4, w4', n00, mn0, k0, k4, f1, f2, decide_false, k6, ceq, w5, w5']
          subst hT
          exact pk_tail s 2147483648 (Nat.le_refl _) (by omega) exp _ x1 x2 (by omega) (by omega) H Q g
        · have ceq : (((m / 2 ^ (n + 1) + 1 : Nat) : Int) == 4294967296) = false := beq_eq_false_iff_ne.2 fun h => hc (Int.ofNat.inj h)
          obtain ⟨g, gl, gg⟩ := g2 (m / 2 ^ (n + 1) + 1) rfl hc
          simp only [ofArgs, run_seq, run_block, run_ops, run_skip, run_exit, run_ret, thenQ_normal, thenQ_exit, thenQ_ret, blockQ_normal, blockQ_exit, blockQ_ret, retQ_ret, retQ_normal, ops_nil, ops_none, got_some, ops_wT, ops_wTn, ops_wF, ops_wFn, ops_wU, dops_wT, dops_wTn, dops_wF, dops_wFn, dops_wU, run_condT, run_condF, alt2_int, altB_bool, altI_int, altBB_bool, v_min, v_max, v_not, v_neg, optEv_none, optEv_some, isSome'_none, isSome'_some, pExt0, pExt1, pExt2, Bool.false_and, Bool.true_and, Bool.not_true, Bool.not_false, cond_true, cond_false, dops_nil, dops_none, xval_call, v_mov, v_bin, v_len, v_ext, v_idxA, v_ld, v_st, v_app, v_appN, v_cvs, v_bs1, pBs1, v_slc, v_conv, v_fld, v_fldA, v_new, v_box, v_mks, v_copy, v_isnil, v_nilck, v_pick, ev, evs_nil, evs_cons, fr_get_cons, fr_put_nil, fr_put_cons, fr_put_some, fr_put_none, fr_keep_nil, fr_keep_cons, fr_has_nil, fr_has_cons, Option.bind_some, Option.map_some, xbin, ibin, xresult_eq, xress_nil, xress_tmp, resV, ex_some, if_true, if_false, ite_true, ite_false, reduceIte, reduceCtorEq, Nat.reduceEqDiff, Nat.reduceLT, Nat.reduceLeDiff, Int.reduceLT, Int.reduceLE, Nat.zero_add, Nat.reduceAdd, Bool.false_eq_true, decide_eq_true_eq, decide_eq_false_iff_not, true_implies, false_implies, and_true, true_and, c0, e1, hN, w1, c1, decide_false]
          refine run_dops _ _ _ _ _ rfl ?_
          simp only [ofArgs, run_seq, run_block, run_ops, run_skip, run_exit, run_ret, thenQ_normal, thenQ_exit, thenQ_ret, blockQ_normal, blockQ_exit, blockQ_ret, retQ_ret, retQ_normal, ops_nil, ops_none, got_some, ops_wT, ops_wTn, ops_wF, ops_wFn, ops_wU, dops_wT, dops_wTn, dops_wF, dops_wFn, dops_wU, run_condT, run_condF, alt2_int, altB_bool, altI_int, altBB_bool, v_min, v_max, v_not, v_neg, optEv_none, optEv_some, isSome'_none, isSome'_some, pExt0, pExt1, pExt2, Bool.false_and, Bool.true_and, Bool.not_true, Bool.not_false, cond_true, cond_false, dops_nil, dops_none, xval_call, v_mov, v_bin, v_len, v_ext, v_idxA, v_ld, v_st, v_app, v_appN, v_cvs, v_bs1, pBs1, v_slc, v_conv, v_fld, v_fldA, v_new, v_box, v_mks, v_copy, v_isnil, v_nilck, v_pick, ev, evs_nil, evs_cons, fr_get_cons, fr_put_nil, fr_put_cons, fr_put_some, fr_put_none, fr_keep_nil, fr_keep_cons, fr_has_nil, fr_has_cons, Option.bind_some, Option.map_some, xbin, ibin, xresult_eq, xress_nil, xress_tmp, resV, ex_some, if_true, if_false, ite_true, ite_false, reduceIte, reduceCtorEq, Nat.reduceEqDiff, Nat.reduceLT, Nat.reduceLeDiff, Int.reduceLT, Int.reduceLE, Nat.zero_add, Nat.reduceAdd, Bool.false_eq_true, decide_eq_true_eq, decide_eq_false_iff_not, true_implies, false_implies, and_true, true_and, n0, mn1, k1, k2, k3, w4, w4', n00, mn0, k0, k4, f1, f2, decide_false, k6, ceq, w5, w5']
          subst hT
          exact pk_tail2 s _ g gl exp _ x1 x2 (by omega) (by omega) H Q gg
    · have f2 : (((m % 2 ^ (n + 1) : Nat) : Int) == ((2 ^ n : Nat) : Int)) = false := beq_eq_false_iff_ne.2 fun h => heq (Int.ofNat.inj h)
      obtain ⟨g1, g2⟩ := hrd false (by rw [hr, if_neg (by intro h; rcases h with h | ⟨h, h3⟩ <;> first | omega | (rcases h3 with h3 | h3 <;> first | omega | cases h3))]; rfl)
      by_cases hc : (m / 2 ^ (n + 1) : Nat) = 4294967296
      · have ceq : (((m / 2 ^ (n + 1) : Nat) : Int) == 4294967296) = true := by rw [hc]; rfl
        have g := g1 (m / 2 ^ (n + 1)) rfl hc
        simp only [ofArgs, run_seq, run_block, run_ops, run_skip, run_exit, run_ret, thenQ_normal, thenQ_exit, thenQ_ret, blockQ_normal, blockQ_exit, blockQ_ret, retQ_ret, retQ_normal, ops_nil, ops_none, got_some, ops_wT, ops_wTn, ops_wF, ops_wFn, ops_wU, dops_wT, dops_wTn, dops_wF, dops_wFn, dops_wU, run_condT, run_condF, alt2_int, altB_bool, altI_int, altBB_bool, v_min, v_max, v_not, v_neg, optEv_none, optEv_some, isSome'_none, isSome'_some, pExt0, pExt1, pExt2, Bool.false_and, Bool.true_and, Bool.not_true, Bool.not_false, cond_true, cond_false, dops_nil, dops_none, xval_call, v_mov, v_bin, v_len, v_ext, v_idxA, v_ld, v_st, v_app, v_appN, v_cvs, v_bs1, pBs1, v_slc, v_conv, v_fld, v_fldA, v_new, v_box, v_mks, v_copy, v_isnil, v_nilck, v_pick, ev, evs_nil, evs_cons, fr_get_cons, fr_put_nil, fr_put_cons, fr_put_some, fr_put_none, fr_keep_nil, fr_keep_cons, fr_has_nil, fr_has_cons, Option.bind_some, Option.map_some, xbin, ibin, xresult_eq, xress_nil, xress_tmp, resV, ex_some, if_true, if_false, ite_true, ite_false, reduceIte, reduceCtorEq, Nat.reduceEqDiff, Nat.reduceLT, Nat.reduceLeDiff, Int.reduceLT, Int.reduceLE, Nat.zero_add, Nat.reduceAdd, Bool.false_eq_true, decide_eq_true_eq, decide_eq_false_iff_not, true_implies, false_implies, and_true, true_and, c0, e1, hN, w1, c1, decide_false]
        refine run_dops _ _ _ _ _ rfl ?_
        simp only [ofArgs, run_seq, run_block, run_ops, run_skip, run_exit, run_ret, thenQ_normal, thenQ_exit, thenQ_ret, blockQ_normal, blockQ_exit, blockQ_ret, retQ_ret, retQ_normal, ops_nil, ops_none, got_some, ops_wT, ops_wTn, ops_wF, ops_wFn, ops_wU, dops_wT, dops_wTn, dops_wF, dops_wFn, dops_wU, run_condT, run_condF, alt2_int, altB_bool, altI_int, altBB_bool, v_min, v_max, v_not, v_neg, optEv_none, optEv_some, isSome'_none, isSome'_some, pExt0, pExt1, pExt2, Bool.false_and, Bool.true_and, Bool.not_true, Bool.not_false, cond_true, cond_false, dops_nil, dops_none, xval_call, v_mov, v_bin, v_len, v_ext, v_idxA, v_ld, v_st, v_app, v_appN, v_cvs, v_bs1, pBs1, v_slc, v_conv, v_fld, v_fldA, v_new, v_box, v_mks, v_copy, v_isnil, v_nilck, v_pick, ev, evs_nil, evs_cons, fr_get_cons, fr_put_nil, fr_put_cons, fr_put_some, fr_put_none, fr_keep_nil, fr_keep_cons, fr_has_nil, fr_has_cons, Option.bind_some, Option.map_some, xbin, ibin, xresult_eq, xress_nil, xress_tmp, resV, ex_some, if_true, if_false, ite_true, ite_false, reduceIte, reduceCtorEq, Nat.reduceEqDiff, Nat.reduceLT, Nat.reduceLeDiff, Int.reduceLT, Int.reduceLE, Nat.zero_add, Nat.reduceAdd, Bool.false_eq_true, decide_eq_true_eq, decide_eq_false_iff_not, true_implies, false_implies, and_true, true_and, n0, mn1, k1, k2, k3, w4, w4', n00, mn0, k0, k4, f1, f2, decide_false, ceq, w5, w5']
        subst hT
        exact pk_tail s 2147483648 (Nat.le_refl _) (by omega) exp _ x1 x2 (by omega) (by omega) H Q g
      · have ceq : (((m / 2 ^ (n + 1) : Nat) : Int) == 4294967296) = false := beq_eq_false_iff_ne.2 fun h => hc (Int.ofNat.inj h)
        obtain ⟨g, gl, gg⟩ := g2 (m / 2 ^ (n + 1)) rfl hc
        simp only [ofArgs, run_seq, run_block, run_ops, run_skip, run_exit, run_ret, thenQ_normal, thenQ_exit, thenQ_ret, blockQ_normal, blockQ_exit, blockQ_ret, retQ_ret, retQ_normal, ops_nil, ops_none, got_some, ops_wT, ops_wTn, ops_wF, ops_wFn, ops_wU, dops_wT, dops_wTn, dops_wF, dops_wFn, dops_wU, run_condT, run_condF, alt2_int, altB_bool, altI_int, altBB_bool, v_min, v_max, v_not, v_neg, optEv_none, optEv_some, isSome'_none, isSome'_some, pExt0, pExt1, pExt2, Bool.false_and, Bool.true_and, Bool.not_true, Bool.not_false, cond_true, cond_false, dops_nil, dops_none, xval_call, v_mov, v_bin, v_len, v_ext, v_idxA, v_ld, v_st, v_app, v_appN, v_cvs, v_bs1, pBs1, v_slc, v_conv, v_fld, v_fldA, v_new, v_box, v_mks, v_copy, v_isnil, v_nilck, v_pick, ev, evs_nil, evs_cons, fr_get_cons, fr_put_nil, fr_put_cons, fr_put_some, fr_put_none, fr_keep_nil, fr_keep_cons, fr_has_nil, fr_has_cons, Option.bind_some, Option.map_some, xbin, ibin, xresult_eq, xress_nil, xress_tmp, resV, ex_some, if_true, if_false, ite_true, ite_false, reduceIte, reduceCtorEq, Nat.reduceEqDiff, Nat.reduceLT, Nat.reduceLeDiff, Int.reduceLT, Int.reduceLE, Nat.zero_add, Nat.reduceAdd, Bool.false_eq_true, decide_eq_true_eq, decide_eq_false_iff_not, true_implies, false_implies, and_true, true_and, c0, e1, hN, w1, c1, decide_false]
        refine run_dops _ _ _ _ _ rfl ?_
        simp only [ofArgs, run_seq, run_block, run_ops, run_skip, run_exit, run_ret, thenQ_normal, thenQ_exit, thenQ_ret, blockQ_normal, blockQ_exit, blockQ_ret, retQ_ret, retQ_normal, ops_nil, ops_none, got_some, ops_wT, ops_wTn, ops_wF, ops_wFn, ops_wU, dops_wT, dops_wTn, dops_wF, dops_wFn, dops_wU, run_condT, run_condF, alt2_int, altB_bool, altI_int, altBB_bool, v_min, v_max, v_not, v_neg, optEv_none, optEv_some, isSome'_none, isSome'_some, pExt0, pExt1, pExt2, Bool.false_and, Bool.true_and, Bool.not_true, Bool.not_false, cond_true, cond_false, dops_nil, dops_none, xval_call, v_mov, v_bin, v_len, v_ext, v_idxA, v_ld, v_st, v_app, v_appN, v_cvs, v_bs1, pBs1, v_slc, v_conv, v_fld, v_fldA, v_new, v_box, v_mks, v_copy, v_isnil, v_nilck, v_pick, ev, evs_nil, evs_cons, fr_get_cons, fr_put_nil, fr_put_cons, fr_put_some, fr_put_none, fr_keep_nil, fr_keep_cons, fr_has_nil, fr_has_cons, Option.bind_some, Option.map_some, xbin, ibin, xresult_eq, xress_nil, xress_tmp, resV, ex_some, if_true, if_false, ite_true, ite_false, reduceIte, reduceCtorEq, Nat.reduceEqDiff, Nat.reduceLT, Nat.reduceLeDiff, Int.reduceLT, Int.reduceLE, Nat.zero_add, Nat.reduceAdd, Bool.false_eq_true, decide_eq_true_eq, decide_eq_false_iff_not, true_implies, false_implies, and_true, true_and, n0, mn1, k1, k2, k3, w4, w4', n00, mn0, k0, k4, f1, f2, decide_false, ceq, w5, w5']
        subst hT
        exact pk_tail2 s _ g gl exp _ x1 x2 (by omega) (by omega) H Q gg
end Go.Proofs.Ytbkmkelohlmblaa.D
