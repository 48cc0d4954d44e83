/- What runs of the program's functions compute, on a heap of the run's own, and that the machine does what such a run says: the conditions stand in each theorem. -/
import Derived.Test.YtejedmocjdcdgaaImM5
set_option linter.unusedSimpArgs false
set_option linter.unusedVariables false
namespace Go.Proofs.Ytejedmocjdcdgaa.D
open Go Go.Det

/-! ### what is written of a sector -/
def flipl (l : List Int) : List Int := l.set (l.length - 1) (((l.getD (l.length - 1) 0).toNat ^^^ 255 : Nat) : Int)
theorem flipl_len (l : List Int) : (flipl l).length = l.length := by simp [flipl]
theorem flipl_b8 (l : List Int) (h : B8 l) : B8 (flipl l) := by
  have h1 := b8_get l h (l.length - 1)
  have := x8 (a := (l.getD (l.length - 1) 0).toNat) (b := 255) (by omega) (by omega)
  exact b8_set l h _ _ (by omega) (by omega)
theorem flipl_crc (l : List Int) (h : B8 l) (hl : 1 ≤ l.length) (hz : crcFold 65535 l = 0) : crcFold 65535 (flipl l) ≠ 0 := by
  unfold flipl
  rw [crcFold_set l h 255 (by omega) (l.length - 1) 65535 (by omega) (by omega), hz, Nat.zero_xor]
  exact rounds_ne _ _ (by omega) (by omega)
def hdS (s : SD) : List Int := sealed [254, s.tr, s.nu]
def bdS (s : SD) : List Int := if s.bad then flipl (sealed (251 :: s.bs)) else sealed (251 :: s.bs)
def ptS (s : SD) : List Pt := [(true, hdS s ++ gp), (true, bdS s ++ gp)]
def fmtP (l : List SD) : List Pt := (false, gp) :: l.flatMap ptS
theorem hd_b8 (s : SD) (h : SdOk s) : B8 [254, s.tr, s.nu] := by
  obtain ⟨s1, s2, s3, s4, s5, s6⟩ := h
  intro b hb
  simp at hb
  omega
theorem bd_b8 (s : SD) (h : SdOk s) : B8 (251 :: s.bs) := by
  obtain ⟨s1, s2, s3, s4, s5, s6⟩ := h
  intro b hb
  rcases List.mem_cons.1 hb with h | h
  · omega
  · exact s6 b h
theorem hdS_len (s : SD) : (hdS s).length = 5 := by simp [hdS, sealed_len]
theorem bdS_len (s : SD) (h : SdOk s) : (bdS s).length = 131 := by
  unfold bdS
  split
  · rw [flipl_len, sealed_len, List.length_cons, h.2.2.2.2.1]
  · rw [sealed_len, List.length_cons, h.2.2.2.2.1]
theorem bdS_b8 (s : SD) (h : SdOk s) : B8 (bdS s) := by
  unfold bdS
  split
  · exact flipl_b8 _ (sealed_b8 _ (bd_b8 s h))
  · exact sealed_b8 _ (bd_b8 s h)
theorem b8_app {a b : List Int} (ha : B8 a) (hb : B8 b) : B8 (a ++ b) := fun x hx => by
  rcases List.mem_append.1 hx with h | h
  · exact ha x h
  · exact hb x h
theorem fmt_canon (l : List SD) (h : ∀ s ∈ l, SdOk s) : Canon (fmtP l) := by
  refine ⟨fun p hp => ?_, fun p hp => ?_, fun p hp => ?_⟩
  · rcases List.mem_cons.1 hp with h1 | h1
    · subst h1; exact gp_b8
    · obtain ⟨s, hs, h2⟩ := List.mem_flatMap.1 h1
      simp only [ptS, List.mem_cons, List.not_mem_nil, or_false] at h2
      rcases h2 with rfl | rfl
      · exact b8_app (sealed_b8 _ (hd_b8 s (h s hs))) gp_b8
      · exact b8_app (bdS_b8 s (h s hs)) gp_b8
  · obtain ⟨s, hs, h2⟩ := List.mem_flatMap.1 hp
    simp only [ptS, List.mem_cons, List.not_mem_nil, or_false] at h2
    rcases h2 with rfl | rfl <;> rfl
  · simp only [fmtP, List.head?_cons, Option.some.injEq] at hp
    subst hp
    exact .inr (by decide)
theorem fmt_sz (l : List SD) (h : ∀ s ∈ l, SdOk s) : szP (fmtP l) = 8 + 154 * l.length := by
  have key : szP (l.flatMap ptS) = 154 * l.length := by
    induction l with
    | nil => rfl
    | cons s l ih =>
      have e : (s :: l).flatMap ptS = (true, hdS s ++ gp) :: (true, bdS s ++ gp) :: l.flatMap ptS := by simp [ptS]
      rw [e, szP_cons, szP_cons, ih (fun y hy => h y (by simp [hy]))]
      have h1 := hdS_len s
      have h2 := bdS_len s (h s (by simp))
      simp only [List.length_append, h1, h2, gp, List.length_cons, List.length_nil, if_true]
      omega
  unfold fmtP
  rw [szP_cons, key]
  simp [gp]

/-! ### structs in the making -/
def altNN (o1 o2 : Option Value) (f : IntKind → Int → IntKind → Int → Option (Value × AH)) (z : Option (Value × AH)) : Option (Value × AH) :=
  match o1, o2 with
  | some (.int k n), some (.int k2 n2) => f k n k2 n2
  | _, _ => z
theorem altNN_int (k k2 : IntKind) (n n2 : Int) (f : IntKind → Int → IntKind → Int → Option (Value × AH)) (z : Option (Value × AH)) : altNN (some (.int k n)) (some (.int k2 n2)) f z = f k n k2 n2 := rfl
theorem v_bs3 {P : Program} {T : XTab} (fr : Fr) (H : AH) (dd : Option Nat) (e : TypeId) (x y : Operand) (z : Value) (ka : IntKind) (a : Int) : xval P (xc P T) ⟨dd, .bslice e 1 3 [z] [(0, .const (.int ka a)), (1, x), (2, y)], none⟩ fr H =
    altNN (ev fr x) (ev fr y) (fun k n k2 n2 => some (.slice (some ⟨H.n, 0, none⟩) 3 3, H.push ⟨[.int ka a, .int k n, .int k2 n2], 1, false, false⟩)) (xop P fr H (.bslice e 1 3 [z] [(0, .const (.int ka a)), (1, x), (2, y)])) := by
  rw [xval_op dd _ fr H rfl]
  unfold altNN
  split
  · rename_i k n k2 n2 h h2
    rw [e_bslice]
    simp only [List.map_cons, List.map_nil, xfill, h, h2]
    rfl
  · rfl
def altAA (o1 o2 : Option Value) (f : Bool → Value → Bool → Value → Option (Value × AH)) (z : Option (Value × AH)) : Option (Value × AH) :=
  match o1, o2 with
  | some (.agg ⟨[.bool m, w]⟩), some (.agg ⟨[.bool m2, w2]⟩) => if one w = true ∧ one w2 = true then f m w m2 w2 else z
  | _, _ => z
theorem altAA_val (m m2 : Bool) (w w2 : Value) (h1 : one w = true) (h2 : one w2 = true) (f : Bool → Value → Bool → Value → Option (Value × AH)) (z : Option (Value × AH)) : altAA (some (.agg #[.bool m, w])) (some (.agg #[.bool m2, w2])) f z = f m w m2 w2 := by
  show (if one w = true ∧ one w2 = true then f m w m2 w2 else z) = _
  rw [if_pos ⟨h1, h2⟩]
theorem v_bs22 {P : Program} {T : XTab} (fr : Fr) (H : AH) (dd : Option Nat) (e : TypeId) (x y : Operand) (z0 z1 : Value) : xval P (xc P T) ⟨dd, .bslice e 2 2 [z0, z1] [(0, x), (1, y)], none⟩ fr H =
    altAA (ev fr x) (ev fr y) (fun m w m2 w2 => some (.slice (some ⟨H.n, 0, none⟩) 2 2, H.push ⟨[.bool m, w, .bool m2, w2], 2, false, false⟩)) (xop P fr H (.bslice e 2 2 [z0, z1] [(0, x), (1, y)])) := by
  rw [xval_op dd _ fr H rfl]
  unfold altAA
  split
  · rename_i m w m2 w2 h h2
    split
    · rename_i hh
      rw [e_bslice]
      have e1 : vcells (.agg ⟨[.bool m, w]⟩) = [.bool m, w] := rfl
      have e2 : vcells (.agg ⟨[.bool m2, w2]⟩) = [.bool m2, w2] := rfl
      simp only [List.map_cons, List.map_nil, xfill, h, h2, e1, e2, List.all_cons, List.all_nil, hh.1, hh.2]
      rfl
    · rfl
  · rfl

/-! ### parts in the making -/
def PTL : LS T3 := ⟨2, fun p => [.bool p.1, p.2.2], fun _ => rfl, by decide⟩
theorem prc_cells (l : List T3) : PTL.cells l = prc l := by
  induction l with
  | nil => rfl
  | cons p l ih =>
    have : PTL.cells (p :: l) = PTL.f p ++ PTL.cells l := by simp [LS.cells]
    rw [this, ih]
    rfl
structure OutF (n0 : Nat) (H : AH) (v : Value) (l : List T3) : Prop where
  own : OL PTL n0 H v l
  byt : ∀ p ∈ l, Byts H p.2.2 p.2.1
  dis : ∀ p ∈ l, ∀ b, inB p.2.2 b → ¬ inB v b
theorem OutF.rp {n0 : Nat} {H : AH} {v : Value} {l : List T3} (h : OutF n0 H v l) : RP H v l := ⟨by have := h.own.1; rw [prc_cells] at this; exact this, h.byt⟩
theorem OutF.ext {n0 : Nat} {H H' : AH} {v : Value} {l : List T3} (h : OutF n0 H v l) (x : HExt H H') : OutF n0 H' v l := ⟨h.own.ext x, fun p hp => Sl.ext x (h.byt p hp), h.dis⟩

theorem OwnB.flip {n0 : Nat} {H : AH} {v : Value} {l : List Int} {k : Nat} {c : Int} {Q : Value → AH → Prop} (ho : OwnB n0 H v l) (hk : k < l.length) (hq : ∀ H', OwnB n0 H' v (l.set k c) → Stp v H v H' → Q undef H') : Got (pSt 1 (ptrAt v k) (.int .u8 c) H) Q := by
  refine pSt_own ho (by simpa using hk) rfl rfl ?_
  intro H' o s
  refine hq H' ?_ s
  have el : (l.set k c).length = l.length := by simp
  unfold OwnB
  rw [el]
  have em : (l.set k c).map (Value.int .u8) = (l.map (Value.int .u8)).set k (.int .u8 c) := by simp
  rw [em]; exact o

set_option maxHeartbeats 8000000 in
theorem fmt_l0 (n1 : Nat) (cell v : Value) (rest : List SD) : ∀ (pre : List SD) (lp : List T3) (vp : Value) (H : AH) (i N : Int) (Q : XExit → Fr → AH → Prop), SDs H v (pre ++ rest) → (∀ b, inB v b → b < n1) → (∀ s ∈ pre ++ rest, ∀ b, inB s.w b → b < n1) → OutF n1 H vp lp → n1 ≤ H.n → (∀ s ∈ rest, SdOk s) → pre.length + rest.length ≤ 100 → lp.length + 2 * rest.length ≤ 1000 → i = (pre.length : Int) → N = ((pre ++ rest).length : Int) →
    (∀ H' vp' lp', OutF n1 H' vp' lp' → lp'.map strip = lp.map strip ++ rest.flatMap ptS → Keep n1 H H' → Q (.exit 0) [(2, cell), (9, vp'), (23, v), (24, .int .i64 N), (25, .int .i64 N), (26, .bool false)] H') →
    Run Try.prog tab (.loop xsect_Format_l0) [(2, cell), (9, vp), (23, v), (24, .int .i64 N), (25, .int .i64 i)] H Q := by
  induction rest with
  | nil =>
    intro pre lp vp H i N Q hv hvb hwb ho hn hok hl hl2 hi hN hq
    rw [run_loop]
    generalize hL : XCode.loop xsect_Format_l0 = L
    have hiN : i = N := by simp at hN; omega
    subst hiN
    have hf : ¬ i < i := by omega
    simp only [xsect_Format_l0, ofArgs, run_seq, run_block, run_ops, run_skip, run_exit, run_ret, thenQ_normal, thenQ_exit, thenQ_ret, blockQ_normal, blockQ_exit, blockQ_ret, retQ_ret, retQ_normal, ops_nil, ops_none, got_some, ops_wT, ops_wTn, ops_wF, ops_wFn, ops_wU, dops_wT, dops_wTn, dops_wF, dops_wFn, dops_wU, run_condT, run_condF, alt2_int, altB_bool, altI_int, altBB_bool, v_min, v_max, v_not, v_neg, optEv_none, optEv_some, isSome'_none, isSome'_some, pExt0, pExt1, pExt2, Bool.false_and, Bool.true_and, Bool.not_true, Bool.not_false, cond_true, cond_false, dops_nil, dops_none, xval_call, v_mov, v_bin, v_len, v_ext, v_idxA, v_ld, v_st, v_app, v_appN, v_cvs, v_bs1, pBs1, v_slc, v_conv, v_fld, v_fldA, v_new, v_box, v_mks, v_copy, v_isnil, v_nilck, v_pick, ev, evs_nil, evs_cons, fr_get_cons, fr_put_nil, fr_put_cons, fr_put_some, fr_put_none, fr_keep_nil, fr_keep_cons, fr_has_nil, fr_has_cons, Option.bind_some, Option.map_some, xbin, ibin, xresult_eq, xress_nil, xress_tmp, resV, ex_some, if_true, if_false, ite_true, ite_false, reduceIte, reduceCtorEq, Nat.reduceEqDiff, Nat.reduceLT, Nat.reduceLeDiff, Int.reduceLT, Int.reduceLE, Nat.zero_add, Nat.reduceAdd, Bool.false_eq_true, decide_eq_true_eq, decide_eq_false_iff_not, true_implies, false_implies, and_true, true_and, hf, decide_false]
    exact hq H vp lp ho (by simp) (.refl _ _)
  | cons s rest ih =>
    intro pre lp vp H i N Q hv hvb hwb ho hn hok hl hl2 hi hN hq
    rw [run_loop]
    generalize hL : XCode.loop xsect_Format_l0 = L
    simp only [List.length_cons] at hl hl2
    have hlt : i < N := by simp at hN; omega
    have e1 := sds_idx hv i hi
    have e2 := sds_ld hv
    have hb := hv.2 s (by simp)
    obtain ⟨o1, o2⟩ := slice_one hb
    have st := bxS_st H s o1
    have hx := bxS_ext H s
    have g := bxS_get H s
    have nE := bxS_n H s
    have hsk := hok s (by simp)
    obtain ⟨s1, s2, s3, s4, s5, s6⟩ := id hsk
    have l0 := bx4_0 g
    have l1 := bx4_1 g
    have wt := wrU8' s.tr (by omega) (by omega)
    have wn := wrU8' s.nu (by omega) (by omega)
    have w3 := wrI (i + 1) (by omega) (by omega)
    simp only [xsect_Format_l0, ofArgs, run_seq, run_block, run_ops, run_skip, run_exit, run_ret, thenQ_normal, thenQ_exit, thenQ_ret, blockQ_normal, blockQ_exit, blockQ_ret, retQ_ret, retQ_normal, ops_nil, ops_none, got_some, ops_wT, ops_wTn, ops_wF, ops_wFn, ops_wU, dops_wT, dops_wTn, dops_wF, dops_wFn, dops_wU, run_condT, run_condF, alt2_int, altB_bool, altI_int, altBB_bool, v_min, v_max, v_not, v_neg, optEv_none, optEv_some, isSome'_none, isSome'_some, pExt0, pExt1, pExt2, Bool.false_and, Bool.true_and, Bool.not_true, Bool.not_false, cond_true, cond_false, dops_nil, dops_none, xval_call, v_mov, v_bin, v_len, v_ext, v_idxA, v_ld, v_st, v_app, v_appN, v_cvs, v_bs1, pBs1, v_slc, v_conv, v_fld, v_fldA, v_new, v_box, v_mks, v_copy, v_isnil, v_nilck, v_pick, ev, evs_nil, evs_cons, fr_get_cons, fr_put_nil, fr_put_cons, fr_put_some, fr_put_none, fr_keep_nil, fr_keep_cons, fr_has_nil, fr_has_cons, Option.bind_some, Option.map_some, xbin, ibin, xresult_eq, xress_nil, xress_tmp, resV, ex_some, if_true, if_false, ite_true, ite_false, reduceIte, reduceCtorEq, Nat.reduceEqDiff, Nat.reduceLT, Nat.reduceLeDiff, Int.reduceLT, Int.reduceLE, Nat.zero_add, Nat.reduceAdd, Bool.false_eq_true, decide_eq_true_eq, decide_eq_false_iff_not, true_implies, false_implies, and_true, true_and, hlt, decide_true, e1, e2, st, fldA0, fldA1, l0, l1, pConv, wt, wn, v_bs3, altNN_int]
    generalize bxS H s = H1 at *
    -- the head
    have x2 := hext_push H1 ⟨[.int .u8 254, .int .u8 s.tr, .int .u8 s.nu], 1, false, false⟩
    have b2 : Byts (H1.push ⟨[.int .u8 254, .int .u8 s.tr, .int .u8 s.nu], 1, false, false⟩) (.slice (some ⟨H1.n, 0, none⟩) 3 3) [254, s.tr, s.nu] := Sl.pushed H1 _ 1 3 false false rfl
    have n2 : (H1.push ⟨[.int .u8 254, .int .u8 s.tr, .int .u8 s.nu], 1, false, false⟩).n = H1.n + 1 := rfl
    generalize H1.push ⟨[.int .u8 254, .int .u8 s.tr, .int .u8 s.nu], 1, false, false⟩ = H2 at *
    refine seal_ok [254, s.tr, s.nu] (by simp) (hd_b8 s hsk) _ H2 _ b2 ?_
    intro vh H3 oh x3
    have z3 := (hx.trans x2).trans x3
    have g3 := ((x2.trans x3).2 H.n (by omega)).trans g
    have l2 := bx4_2 g3
    have ps := fun H => (rfl : pBs1 (.int .u8 251) H = some (.slice (some ⟨H.n, 0, none⟩) 1 1, H.push ⟨[.int .u8 251], 1, false, false⟩))
    have x4 := hext_push H3 ⟨[.int .u8 251], 1, false, false⟩
    have n4 : (H3.push ⟨[.int .u8 251], 1, false, false⟩).n = H3.n + 1 := rfl
    have o4 : OwnB H3.n (H3.push ⟨[.int .u8 251], 1, false, false⟩) (.slice (some ⟨H3.n, 0, none⟩) 1 1) [251] := Own.pushed H3 _ 1 1 false rfl
    have g4 := (x4.2 H.n (by have := z3.1; have := x3.1; omega)).trans g3
    have l2 := bx4_2 g4
    have z4 := z3.trans x4
    have hb4 : Byts (H3.push ⟨[.int .u8 251], 1, false, false⟩) s.w s.bs := Sl.ext z4 hb
    have oh4 := Own.ext x4 oh
    simp only [ofArgs, run_seq, run_block, run_ops, run_skip, run_exit, run_ret, thenQ_normal, thenQ_exit, thenQ_ret, blockQ_normal, blockQ_exit, blockQ_ret, retQ_ret, retQ_normal, ops_nil, ops_none, got_some, ops_wT, ops_wTn, ops_wF, ops_wFn, ops_wU, dops_wT, dops_wTn, dops_wF, dops_wFn, dops_wU, run_condT, run_condF, alt2_int, altB_bool, altI_int, altBB_bool, v_min, v_max, v_not, v_neg, optEv_none, optEv_some, isSome'_none, isSome'_some, pExt0, pExt1, pExt2, Bool.false_and, Bool.true_and, Bool.not_true, Bool.not_false, cond_true, cond_false, dops_nil, dops_none, xval_call, v_mov, v_bin, v_len, v_ext, v_idxA, v_ld, v_st, v_app, v_appN, v_cvs, v_bs1, pBs1, v_slc, v_conv, v_fld, v_fldA, v_new, v_box, v_mks, v_copy, v_isnil, v_nilck, v_pick, ev, evs_nil, evs_cons, fr_get_cons, fr_put_nil, fr_put_cons, fr_put_some, fr_put_none, fr_keep_nil, fr_keep_cons, fr_has_nil, fr_has_cons, Option.bind_some, Option.map_some, xbin, ibin, xresult_eq, xress_nil, xress_tmp, resV, ex_some, if_true, if_false, ite_true, ite_false, reduceIte, reduceCtorEq, Nat.reduceEqDiff, Nat.reduceLT, Nat.reduceLeDiff, Int.reduceLT, Int.reduceLE, Nat.zero_add, Nat.reduceAdd, Bool.false_eq_true, decide_eq_true_eq, decide_eq_false_iff_not, true_implies, false_implies, and_true, true_and, v_bs1, ps, fldA2, l2]
    generalize H3.push ⟨[.int .u8 251], 1, false, false⟩ = H4 at *
    have m3 := x3.1
    have m4 := x4.1
    refine appB o4 (by omega) hb4 (by simp; omega) ?_
    intro v5 H5 o5 st5
    have k5 := st5.keep o4 (by omega)
    have z5 : HExt H H5 := Keep.trans (n0 := H.n) z4 (k5.le (by have := z3.1; omega))
    have oh5 : OwnB H2.n H5 vh (sealed [254, s.tr, s.nu]) := Own.stp st5 oh4 (fun b h1 h2 => by
      have := oh.1.lt h1
      obtain ⟨o, l, c, e⟩ := h2
      simp only [Value.slice.injEq, Option.some.injEq, Addr.mk.injEq] at e
      omega)
    refine seal_ok (251 :: s.bs) (by simp; omega) (bd_b8 s hsk) v5 H5 _ o5.1 ?_
    intro vb H6 ob x6
    have g6 : H6.get H.n = some ⟨[.int .i64 s.tr, .int .i64 s.nu, s.w, .bool s.bad], 1, false, false⟩ := (x6.2 H.n (by have := z5.1; have := k5.1; omega)).trans ((st5.get H.n (by omega) (fun h2 => by
      obtain ⟨o, l, c, e⟩ := h2
      simp only [Value.slice.injEq, Option.some.injEq, Addr.mk.injEq] at e
      omega)).trans g4)
    have z6 := z5.trans x6
    have oh6 := Own.ext x6 oh5
    have l3 := bx4_3 g6
    have n5 := st5.n
    have n6 := x6.1
    -- what follows both
    have fin : ∀ H7, OwnB H5.n H7 vb (bdS s) → Keep H5.n H6 H7 → Got (xc Try.prog tab 91 [] H7) fun vg H8 => Got (xapp H8 1 1 vh vg) fun vh' H9 => one vh' = true ∧ vcells vh' = [vh'] ∧ Got (xc Try.prog tab 91 [] H9) fun vg2 H10 => Got (xapp H10 1 1 vb vg2) fun vb' H11 => one vb' = true ∧ vcells vb' = [vb'] ∧
        Got (xapp (H11.push ⟨[.bool true, vh', .bool true, vb'], 2, false, false⟩) 2 32 vp (.slice (some ⟨H11.n, 0, none⟩) 2 2)) fun vp' H12 => Run Try.prog tab L [(2, cell), (9, vp'), (23, v), (24, .int .i64 N), (25, .int .i64 (i + 1))] H12 Q := by
      intro H7 ob7 k7
      have oh7 : OwnB H2.n H7 vh (sealed [254, s.tr, s.nu]) := Own.same oh6 k7.1 fun b h1 => k7.2 b (by have := oh5.1.lt h1; omega)
      have n7 := k7.1
      refine gap_ok H7 _ ?_
      intro vg H8 og x8
      have n8 := x8.1
      refine appB (Own.ext x8 oh7) (by omega) og.1 (by simp [sealed_len, gp]) ?_
      intro vh' H9 oh9 st9
      have n9 := st9.n
      obtain ⟨a1, a2⟩ := slice_one oh9.1
      refine ⟨a1, a2, ?_⟩
      refine gap_ok H9 _ ?_
      intro vg2 H10 og2 x10
      have n10 := x10.1
      have hvb7 : ∀ b, inB vb b → b < H7.n := fun b hb => ob7.1.lt hb
      have hvbg : ∀ b, inB vb b → H5.n ≤ b := fun b ⟨o, l, c, e⟩ => (ob7.2 b o l c e).1
      have hvhl : ∀ b, inB vh b → b < H5.n := fun b hb => oh5.1.lt hb
      have hvhg : ∀ b, inB vh b → H2.n ≤ b := fun b ⟨o, l, c, e⟩ => (oh.2 b o l c e).1
      have ob10 : OwnB H5.n H10 vb (bdS s) := Own.ext x10 (Own.stp st9 (Own.ext x8 ob7) (fun b h1 h2 => by have := hvbg b h1; have := hvhl b h2; omega))
      refine appB ob10 (by omega) og2.1 (by rw [bdS_len s hsk]; simp [gp]) ?_
      intro vb' H11 ob11 st11
      have n11 := st11.n
      have hvh' : ∀ b, inB vh' b → ¬ inB vb b := fun b h1 h2 => by
        rcases st9.new b h1 with h | h
        · have := hvhl b h; have := hvbg b h2; omega
        · have := hvb7 b h2; omega
      have oh11 : OwnB H2.n H11 vh' (sealed [254, s.tr, s.nu] ++ gp) := Own.stp st11 (Own.ext x10 oh9) hvh'
      obtain ⟨a3, a4⟩ := slice_one ob11.1
      refine ⟨a3, a4, ?_⟩
      have z7 : HExt H H7 := Keep.trans (n0 := H.n) z6 (k7.le (by have := z5.1; omega))
      have k9 := st9.keep (Own.ext x8 oh7) (by omega)
      have k11 := st11.keep ob10 (by omega)
      have zH := z3.1
      have z5n := z5.1
      have hxn := hx.1
      have z11 : HExt H H11 := Keep.trans (n0 := H.n) z7 (Keep.trans (HExt.keep x8 (by omega)) (Keep.trans (k9.le (by omega)) (Keep.trans (HExt.keep x10 (by omega)) (k11.le (by omega)))))
      have o11 := ho.ext z11
      have hvpl : ∀ b, inB vp b → b < H.n := fun b hb => ho.own.1.lt hb
      refine OL.push [(true, hdS s ++ gp, vh'), (true, bdS s ++ gp, vb')] o11.own (by have := z11.1; omega) (by show ([.bool true, vh', .bool true, vb'] : List Value).all one = true; simp [a1, a3, show one (.bool true) = true from rfl]) 32 (by decide) (by simp; omega) ?_
      intro vp' H12 o12 k12 g12 new12 n12
      subst hL
      have z12 : HExt H11 H12 → True := fun _ => trivial
      have sl12 : ∀ (w : Value) (l : List Int), Byts H11 w l → (∀ b, inB w b → ¬ inB vp b) → Byts H12 w l := fun w l h1 h2 => Sl.same h1 n12 fun b hb => g12 b (h1.lt hb) (h2 b hb)
      have hvhge : ∀ b, inB vh' b → H2.n ≤ b := fun b ⟨o, l, c, e⟩ => (oh11.2 b o l c e).1
      have hvbge : ∀ b, inB vb' b → H5.n ≤ b := fun b ⟨o, l, c, e⟩ => (ob11.2 b o l c e).1
      have hvhb : ∀ b, inB vh' b → ¬ inB vp b := fun b h1 h2 => by have := hvpl b h2; have := hvhge b h1; omega
      have hvbb : ∀ b, inB vb' b → ¬ inB vp b := fun b h1 h2 => by have := hvpl b h2; have := hvbge b h1; omega
      have of12 : OutF n1 H12 vp' (lp ++ [(true, hdS s ++ gp, vh'), (true, bdS s ++ gp, vb')]) := by
        refine ⟨o12, fun p hp => ?_, fun p hp b hb hv' => ?_⟩
        · rcases List.mem_append.1 hp with h | h
          · exact sl12 _ _ (o11.byt p h) (ho.dis p h)
          · simp only [List.mem_cons, List.not_mem_nil, or_false] at h
            rcases h with rfl | rfl
            · exact sl12 _ _ oh11.1 hvhb
            · exact sl12 _ _ ob11.1 hvbb
        · have hb11 : b < H11.n := by
            rcases List.mem_append.1 hp with h | h
            · exact (o11.byt p h).lt hb
            · simp only [List.mem_cons, List.not_mem_nil, or_false] at h
              rcases h with rfl | rfl
              · exact oh11.1.lt hb
              · exact ob11.1.lt hb
          rcases new12 b hv' with h2 | h2
          · rcases List.mem_append.1 hp with h | h
            · exact ho.dis p h b hb h2
            · simp only [List.mem_cons, List.not_mem_nil, or_false] at h
              rcases h with rfl | rfl
              · exact hvhb b hb h2
              · exact hvbb b hb h2
          · omega
      have kH : Keep n1 H H12 := Keep.trans (HExt.keep z11 hn) k12
      refine ih (pre ++ [s]) _ vp' H12 (i + 1) N Q ⟨by rw [← List.append_cons]; exact Sl.keep kH hv.1 hvb, by rw [← List.append_cons]; exact fun y hy => Sl.keep kH (hv.2 y hy) (hwb y hy)⟩ hvb (by rw [← List.append_cons]; exact hwb) of12 (by have := kH.1; omega) (fun y hy => hok y (by simp [hy])) (by simp; omega) (by simp; omega) (by simp; omega) (by simpa using hN) ?_
      intro H13 vp3 lp3 o13 hm13 k13
      refine hq H13 vp3 lp3 o13 ?_ (kH.trans k13)
      rw [hm13]
      simp [strip, ptS, List.flatMap_cons]
    have hlen6 := byts_len' ob.1
    have hlenv : (sealed (251 :: s.bs)).length = 131 := by rw [sealed_len, List.length_cons, s5]
    rw [hlenv] at hlen6
    have done : ∀ {P1 : Value → AH → Prop} (H7 : AH), OwnB H5.n H7 vb (bdS s) → Keep H5.n H6 H7 → (∀ vg H8, (Got (xapp H8 1 1 vh vg) fun vh' H9 => one vh' = true ∧ vcells vh' = [vh'] ∧ Got (xc Try.prog tab 91 [] H9) fun vg2 H10 => Got (xapp H10 1 1 vb vg2) fun vb' H11 => one vb' = true ∧ vcells vb' = [vb'] ∧
        Got (xapp (H11.push ⟨[.bool true, vh', .bool true, vb'], 2, false, false⟩) 2 32 vp (.slice (some ⟨H11.n, 0, none⟩) 2 2)) fun vp' H12 => Run Try.prog tab L [(2, cell), (9, vp'), (23, v), (24, .int .i64 N), (25, .int .i64 (i + 1))] H12 Q) → P1 vg H8) → Got (xc Try.prog tab 91 [] H7) P1 := fun H7 h1 h2 h3 => (fin H7 h1 h2).mono h3
    clear fin
    have close : ∀ H7, OwnB H5.n H7 vb (bdS s) → Keep H5.n H6 H7 → Run Try.prog tab (.ops [⟨some 52, .mov (.tmp 9), none⟩, ⟨some 53, .mov (.tmp 12), none⟩, ⟨some 54, .call 91 [], none⟩, ⟨some 55, .app 5 1 1 [.int .u8 0] (.tmp 53) (.tmp 54), none⟩, ⟨some 56, .build [.bool false, .slice none 0 0] [(0, 1, .const (.bool true)), (1, 1, .tmp 55)], none⟩, ⟨some 57, .mov (.tmp 13), none⟩, ⟨some 58, .call 91 [], none⟩, ⟨some 59, .app 5 1 1 [.int .u8 0] (.tmp 57) (.tmp 58), none⟩, ⟨some 60, .build [.bool false, .slice none 0 0] [(0, 1, .const (.bool true)), (1, 1, .tmp 59)], none⟩, ⟨some 61, .bslice 55 2 2 [.bool false, .slice none 0 0] [(0, .tmp 56), (1, .tmp 60)], none⟩, ⟨some 62, .app 55 2 32 [.bool false, .slice none 0 0] (.tmp 52) (.tmp 61), none⟩, ⟨some 9, .mov (.tmp 62), none⟩] [2, 9, 23, 24, 25]) [(2, cell), (9, vp), (12, vh), (13, vb), (23, v), (24, .int .i64 N), (25, .int .i64 i)] H7 (fun e fr H => thenQ (fun fr H => Run Try.prog tab (.ops [⟨some 63, .bin .add (.tmp 25) (.const (.int .i64 1)), none⟩, ⟨some 25, .mov (.tmp 63), none⟩] [2, 9, 23, 24, 25]) fr H (thenQ (fun fr H => Run Try.prog tab L fr H Q) Q)) (thenQ (fun fr H => Run Try.prog tab L fr H Q) Q) e fr H) := by
      intro H7 h1 h2
      simp only [ofArgs, run_seq, run_block, run_ops, run_skip, run_exit, run_ret, thenQ_normal, thenQ_exit, thenQ_ret, blockQ_normal, blockQ_exit, blockQ_ret, retQ_ret, retQ_normal, ops_nil, ops_none, got_some, ops_wT, ops_wTn, ops_wF, ops_wFn, ops_wU, dops_wT, dops_wTn, dops_wF, dops_wFn, dops_wU, run_condT, run_condF, alt2_int, altB_bool, altI_int, altBB_bool, v_min, v_max, v_not, v_neg, optEv_none, optEv_some, isSome'_none, isSome'_some, pExt0, pExt1, pExt2, Bool.false_and, Bool.true_and, Bool.not_true, Bool.not_false, cond_true, cond_false, dops_nil, dops_none, xval_call, v_mov, v_bin, v_len, v_ext, v_idxA, v_ld, v_st, v_app, v_appN, v_cvs, v_bs1, pBs1, v_slc, v_conv, v_fld, v_fldA, v_new, v_box, v_mks, v_copy, v_isnil, v_nilck, v_pick, ev, evs_nil, evs_cons, fr_get_cons, fr_put_nil, fr_put_cons, fr_put_some, fr_put_none, fr_keep_nil, fr_keep_cons, fr_has_nil, fr_has_cons, Option.bind_some, Option.map_some, xbin, ibin, xresult_eq, xress_nil, xress_tmp, resV, ex_some, if_true, if_false, ite_true, ite_false, reduceIte, reduceCtorEq, Nat.reduceEqDiff, Nat.reduceLT, Nat.reduceLeDiff, Int.reduceLT, Int.reduceLE, Nat.zero_add, Nat.reduceAdd, Bool.false_eq_true, decide_eq_true_eq, decide_eq_false_iff_not, true_implies, false_implies, and_true, true_and]
      refine done H7 h1 h2 ?_
      intro vg H8 hg
      refine hg.mono ?_
      rintro vh' H9 ⟨a1, a2, hg9⟩
      have p1 := fun H => pB2_of (.bool true) vh' H a1 a2
      simp only [ofArgs, run_seq, run_block, run_ops, run_skip, run_exit, run_ret, thenQ_normal, thenQ_exit, thenQ_ret, blockQ_normal, blockQ_exit, blockQ_ret, retQ_ret, retQ_normal, ops_nil, ops_none, got_some, ops_wT, ops_wTn, ops_wF, ops_wFn, ops_wU, dops_wT, dops_wTn, dops_wF, dops_wFn, dops_wU, run_condT, run_condF, alt2_int, altB_bool, altI_int, altBB_bool, v_min, v_max, v_not, v_neg, optEv_none, optEv_some, isSome'_none, isSome'_some, pExt0, pExt1, pExt2, Bool.false_and, Bool.true_and, Bool.not_true, Bool.not_false, cond_true, cond_false, dops_nil, dops_none, xval_call, v_mov, v_bin, v_len, v_ext, v_idxA, v_ld, v_st, v_app, v_appN, v_cvs, v_bs1, pBs1, v_slc, v_conv, v_fld, v_fldA, v_new, v_box, v_mks, v_copy, v_isnil, v_nilck, v_pick, ev, evs_nil, evs_cons, fr_get_cons, fr_put_nil, fr_put_cons, fr_put_some, fr_put_none, fr_keep_nil, fr_keep_cons, fr_has_nil, fr_has_cons, Option.bind_some, Option.map_some, xbin, ibin, xresult_eq, xress_nil, xress_tmp, resV, ex_some, if_true, if_false, ite_true, ite_false, reduceIte, reduceCtorEq, Nat.reduceEqDiff, Nat.reduceLT, Nat.reduceLeDiff, Int.reduceLT, Int.reduceLE, Nat.zero_add, Nat.reduceAdd, Bool.false_eq_true, decide_eq_true_eq, decide_eq_false_iff_not, true_implies, false_implies, and_true, true_and, v_b2t, p1]
      refine hg9.mono ?_
      intro vg2 H10 hg10
      refine hg10.mono ?_
      rintro vb' H11 ⟨a3, a4, hg11⟩
      have p2 := fun H => pB2_of (.bool true) vb' H a3 a4
      have aa := fun f z => altAA_val true true vh' vb' a1 a3 f z
      simp only [ofArgs, run_seq, run_block, run_ops, run_skip, run_exit, run_ret, thenQ_normal, thenQ_exit, thenQ_ret, blockQ_normal, blockQ_exit, blockQ_ret, retQ_ret, retQ_normal, ops_nil, ops_none, got_some, ops_wT, ops_wTn, ops_wF, ops_wFn, ops_wU, dops_wT, dops_wTn, dops_wF, dops_wFn, dops_wU, run_condT, run_condF, alt2_int, altB_bool, altI_int, altBB_bool, v_min, v_max, v_not, v_neg, optEv_none, optEv_some, isSome'_none, isSome'_some, pExt0, pExt1, pExt2, Bool.false_and, Bool.true_and, Bool.not_true, Bool.not_false, cond_true, cond_false, dops_nil, dops_none, xval_call, v_mov, v_bin, v_len, v_ext, v_idxA, v_ld, v_st, v_app, v_appN, v_cvs, v_bs1, pBs1, v_slc, v_conv, v_fld, v_fldA, v_new, v_box, v_mks, v_copy, v_isnil, v_nilck, v_pick, ev, evs_nil, evs_cons, fr_get_cons, fr_put_nil, fr_put_cons, fr_put_some, fr_put_none, fr_keep_nil, fr_keep_cons, fr_has_nil, fr_has_cons, Option.bind_some, Option.map_some, xbin, ibin, xresult_eq, xress_nil, xress_tmp, resV, ex_some, if_true, if_false, ite_true, ite_false, reduceIte, reduceCtorEq, Nat.reduceEqDiff, Nat.reduceLT, Nat.reduceLeDiff, Int.reduceLT, Int.reduceLE, Nat.zero_add, Nat.reduceAdd, Bool.false_eq_true, decide_eq_true_eq, decide_eq_false_iff_not, true_implies, false_implies, and_true, true_and, v_b2t, p2, v_bs22, aa]
      refine hg11.mono ?_
      intro vp' H12 hr
      simp only [ofArgs, run_seq, run_block, run_ops, run_skip, run_exit, run_ret, thenQ_normal, thenQ_exit, thenQ_ret, blockQ_normal, blockQ_exit, blockQ_ret, retQ_ret, retQ_normal, ops_nil, ops_none, got_some, ops_wT, ops_wTn, ops_wF, ops_wFn, ops_wU, dops_wT, dops_wTn, dops_wF, dops_wFn, dops_wU, run_condT, run_condF, alt2_int, altB_bool, altI_int, altBB_bool, v_min, v_max, v_not, v_neg, optEv_none, optEv_some, isSome'_none, isSome'_some, pExt0, pExt1, pExt2, Bool.false_and, Bool.true_and, Bool.not_true, Bool.not_false, cond_true, cond_false, dops_nil, dops_none, xval_call, v_mov, v_bin, v_len, v_ext, v_idxA, v_ld, v_st, v_app, v_appN, v_cvs, v_bs1, pBs1, v_slc, v_conv, v_fld, v_fldA, v_new, v_box, v_mks, v_copy, v_isnil, v_nilck, v_pick, ev, evs_nil, evs_cons, fr_get_cons, fr_put_nil, fr_put_cons, fr_put_some, fr_put_none, fr_keep_nil, fr_keep_cons, fr_has_nil, fr_has_cons, Option.bind_some, Option.map_some, xbin, ibin, xresult_eq, xress_nil, xress_tmp, resV, ex_some, if_true, if_false, ite_true, ite_false, reduceIte, reduceCtorEq, Nat.reduceEqDiff, Nat.reduceLT, Nat.reduceLeDiff, Int.reduceLT, Int.reduceLE, Nat.zero_add, Nat.reduceAdd, Bool.false_eq_true, decide_eq_true_eq, decide_eq_false_iff_not, true_implies, false_implies, and_true, true_and, w3]
      exact hr
    cases hbad : s.bad with
    | false =>
      have ebd : bdS s = sealed (251 :: s.bs) := by unfold bdS; rw [hbad]; rfl
      rw [hbad] at l3
      have cl := close H6 (by rw [ebd]; exact ob) (.refl _ _)
      simp only [ofArgs, run_seq, run_block, run_ops, run_skip, run_exit, run_ret, thenQ_normal, thenQ_exit, thenQ_ret, blockQ_normal, blockQ_exit, blockQ_ret, retQ_ret, retQ_normal, ops_nil, ops_none, got_some, ops_wT, ops_wTn, ops_wF, ops_wFn, ops_wU, dops_wT, dops_wTn, dops_wF, dops_wFn, dops_wU, run_condT, run_condF, alt2_int, altB_bool, altI_int, altBB_bool, v_min, v_max, v_not, v_neg, optEv_none, optEv_some, isSome'_none, isSome'_some, pExt0, pExt1, pExt2, Bool.false_and, Bool.true_and, Bool.not_true, Bool.not_false, cond_true, cond_false, dops_nil, dops_none, xval_call, v_mov, v_bin, v_len, v_ext, v_idxA, v_ld, v_st, v_app, v_appN, v_cvs, v_bs1, pBs1, v_slc, v_conv, v_fld, v_fldA, v_new, v_box, v_mks, v_copy, v_isnil, v_nilck, v_pick, ev, evs_nil, evs_cons, fr_get_cons, fr_put_nil, fr_put_cons, fr_put_some, fr_put_none, fr_keep_nil, fr_keep_cons, fr_has_nil, fr_has_cons, Option.bind_some, Option.map_some, xbin, ibin, xresult_eq, xress_nil, xress_tmp, resV, ex_some, if_true, if_false, ite_true, ite_false, reduceIte, reduceCtorEq, Nat.reduceEqDiff, Nat.reduceLT, Nat.reduceLeDiff, Int.reduceLT, Int.reduceLE, Nat.zero_add, Nat.reduceAdd, Bool.false_eq_true, decide_eq_true_eq, decide_eq_false_iff_not, true_implies, false_implies, and_true, true_and] at cl
      simp only [ofArgs, run_seq, run_block, run_ops, run_skip, run_exit, run_ret, thenQ_normal, thenQ_exit, thenQ_ret, blockQ_normal, blockQ_exit, blockQ_ret, retQ_ret, retQ_normal, ops_nil, ops_none, got_some, ops_wT, ops_wTn, ops_wF, ops_wFn, ops_wU, dops_wT, dops_wTn, dops_wF, dops_wFn, dops_wU, run_condT, run_condF, alt2_int, altB_bool, altI_int, altBB_bool, v_min, v_max, v_not, v_neg, optEv_none, optEv_some, isSome'_none, isSome'_some, pExt0, pExt1, pExt2, Bool.false_and, Bool.true_and, Bool.not_true, Bool.not_false, cond_true, cond_false, dops_nil, dops_none, xval_call, v_mov, v_bin, v_len, v_ext, v_idxA, v_ld, v_st, v_app, v_appN, v_cvs, v_bs1, pBs1, v_slc, v_conv, v_fld, v_fldA, v_new, v_box, v_mks, v_copy, v_isnil, v_nilck, v_pick, ev, evs_nil, evs_cons, fr_get_cons, fr_put_nil, fr_put_cons, fr_put_some, fr_put_none, fr_keep_nil, fr_keep_cons, fr_has_nil, fr_has_cons, Option.bind_some, Option.map_some, xbin, ibin, xresult_eq, xress_nil, xress_tmp, resV, ex_some, if_true, if_false, ite_true, ite_false, reduceIte, reduceCtorEq, Nat.reduceEqDiff, Nat.reduceLT, Nat.reduceLeDiff, Int.reduceLT, Int.reduceLE, Nat.zero_add, Nat.reduceAdd, Bool.false_eq_true, decide_eq_true_eq, decide_eq_false_iff_not, true_implies, false_implies, and_true, true_and, fldA3, l3]
      exact cl
    | true =>
      have ebd : bdS s = flipl (sealed (251 :: s.bs)) := by unfold bdS; rw [hbad]; rfl
      rw [hbad] at l3
      have w130 : IntKind.i64.wrap (((131 : Nat) : Int) - 1) = 130 := rfl
      have e3 := byts_idx ob.1 130 130 rfl (by rw [hlenv]; omega)
      have e4 := byts_ld ob.1 130 _ (getD_get _ 130 (by rw [hlenv]; omega))
      have hb8 := b8_get _ (sealed_b8 _ (bd_b8 s hsk)) 130
      have ex := b_xor ((sealed (251 :: s.bs)).getD 130 0).toNat 255 (by omega) (by omega)
      have ec : ((((sealed (251 :: s.bs)).getD 130 0).toNat : Nat) : Int) = (sealed (251 :: s.bs)).getD 130 0 := by omega
      have e255 : ((255 : Nat) : Int) = 255 := rfl
      rw [ec, e255] at ex
      have efl : flipl (sealed (251 :: s.bs)) = (sealed (251 :: s.bs)).set 130 ((((sealed (251 :: s.bs)).getD 130 0).toNat ^^^ 255 : Nat) : Int) := by
        unfold flipl; rw [hlenv]
      simp only [ofArgs, run_seq, run_block, run_ops, run_skip, run_exit, run_ret, thenQ_normal, thenQ_exit, thenQ_ret, blockQ_normal, blockQ_exit, blockQ_ret, retQ_ret, retQ_normal, ops_nil, ops_none, got_some, ops_wT, ops_wTn, ops_wF, ops_wFn, ops_wU, dops_wT, dops_wTn, dops_wF, dops_wFn, dops_wU, run_condT, run_condF, alt2_int, altB_bool, altI_int, altBB_bool, v_min, v_max, v_not, v_neg, optEv_none, optEv_some, isSome'_none, isSome'_some, pExt0, pExt1, pExt2, Bool.false_and, Bool.true_and, Bool.not_true, Bool.not_false, cond_true, cond_false, dops_nil, dops_none, xval_call, v_mov, v_bin, v_len, v_ext, v_idxA, v_ld, v_st, v_app, v_appN, v_cvs, v_bs1, pBs1, v_slc, v_conv, v_fld, v_fldA, v_new, v_box, v_mks, v_copy, v_isnil, v_nilck, v_pick, ev, evs_nil, evs_cons, fr_get_cons, fr_put_nil, fr_put_cons, fr_put_some, fr_put_none, fr_keep_nil, fr_keep_cons, fr_has_nil, fr_has_cons, Option.bind_some, Option.map_some, xbin, ibin, xresult_eq, xress_nil, xress_tmp, resV, ex_some, if_true, if_false, ite_true, ite_false, reduceIte, reduceCtorEq, Nat.reduceEqDiff, Nat.reduceLT, Nat.reduceLeDiff, Int.reduceLT, Int.reduceLE, Nat.zero_add, Nat.reduceAdd, Bool.false_eq_true, decide_eq_true_eq, decide_eq_false_iff_not, true_implies, false_implies, and_true, true_and, fldA3, l3, hlen6, w130, e3, e4, ex]
      refine OwnB.flip ob (by rw [hlenv]; omega) ?_
      intro H7 ob7 st7
      rw [← efl, ← ebd] at ob7
      have cl := close H7 ob7 (st7.keep ob (by omega))
      simp only [ofArgs, run_seq, run_block, run_ops, run_skip, run_exit, run_ret, thenQ_normal, thenQ_exit, thenQ_ret, blockQ_normal, blockQ_exit, blockQ_ret, retQ_ret, retQ_normal, ops_nil, ops_none, got_some, ops_wT, ops_wTn, ops_wF, ops_wFn, ops_wU, dops_wT, dops_wTn, dops_wF, dops_wFn, dops_wU, run_condT, run_condF, alt2_int, altB_bool, altI_int, altBB_bool, v_min, v_max, v_not, v_neg, optEv_none, optEv_some, isSome'_none, isSome'_some, pExt0, pExt1, pExt2, Bool.false_and, Bool.true_and, Bool.not_true, Bool.not_false, cond_true, cond_false, dops_nil, dops_none, xval_call, v_mov, v_bin, v_len, v_ext, v_idxA, v_ld, v_st, v_app, v_appN, v_cvs, v_bs1, pBs1, v_slc, v_conv, v_fld, v_fldA, v_new, v_box, v_mks, v_copy, v_isnil, v_nilck, v_pick, ev, evs_nil, evs_cons, fr_get_cons, fr_put_nil, fr_put_cons, fr_put_some, fr_put_none, fr_keep_nil, fr_keep_cons, fr_has_nil, fr_has_cons, Option.bind_some, Option.map_some, xbin, ibin, xresult_eq, xress_nil, xress_tmp, resV, ex_some, if_true, if_false, ite_true, ite_false, reduceIte, reduceCtorEq, Nat.reduceEqDiff, Nat.reduceLT, Nat.reduceLeDiff, Int.reduceLT, Int.reduceLE, Nat.zero_add, Nat.reduceAdd, Bool.false_eq_true, decide_eq_true_eq, decide_eq_false_iff_not, true_implies, false_implies, and_true, true_and] at cl
      exact cl
end Go.Proofs.Ytejedmocjdcdgaa.D

set_option linter.unusedSimpArgs false
set_option linter.unusedVariables false
namespace Go.Proofs.Ytejedmocjdcdgaa.D
open Go Go.Det

theorem flat_parts (l : List T3) (hcan : Canon (l.map strip)) : ∀ p ∈ l, B8 p.2.1 := fun p hp => hcan.1 (strip p) (List.mem_map_of_mem hp)
theorem fmtP_len (l : List SD) : (fmtP l).length = 1 + 2 * l.length := by
  have key : (l.flatMap ptS).length = 2 * l.length := by
    induction l with
    | nil => rfl
    | cons s l ih => rw [List.flatMap_cons, List.length_append, ih]; simp [ptS]; omega
  unfold fmtP
  rw [List.length_cons, key]; omega
set_option maxHeartbeats 2000000 in
theorem format_ok (tr : Int) (h0 : 0 ≤ tr) (h1 : tr < 20) (l : List SD) (v : Value) (cell : Int) (H : AH) (Q : Value → AH → Prop) (hv : SDs H v l) (hok : ∀ s ∈ l, SdOk s) (hl : l.length ≤ 12) (hc : 2 ≤ cell) (hc2 : cell ≤ 1000)
    (hq : ∀ vt H', OwnI H.n H' vt (pul cell (gaps (fullI (itemsL (fmtP l)))).1) → HExt H H' → Q (.tuple [vt, .int .i64 0].toArray) H') : Got (xc Try.prog tab 43 [.int .i64 tr, v, .int .i64 cell] H) Q := by
  refine got_call (res := [.tmp 6, .tmp 7]) rfl ?_
  generalize hT : ((.seq (.ops [⟨some 20, .call 91 [], none⟩, ⟨some 21, .build [.bool false, .slice none 0 0] [(1, 1, .tmp 20)], none⟩, ⟨some 22, .bslice 55 2 1 [.bool false, .slice none 0 0] [(0, .tmp 21)], none⟩, ⟨some 9, .mov (.tmp 22), none⟩] [1, 2, 9]) (.seq (.seq (.ops [⟨some 23, .mov (.tmp 1), none⟩, ⟨some 24, .len (.tmp 23), none⟩, ⟨some 25, .mov (.const (.int .i64 0)), none⟩] [2, 9, 23, 24, 25]) (.block 0 (.loop xsect_Format_l0))) (.seq (.ops [⟨some 64, .mov (.tmp 9), none⟩, ⟨some 65, .mov (.tmp 2), none⟩, ⟨some 66, .call 29 [.tmp 64, .tmp 65], none⟩, ⟨some 67, .ext (.tmp 66) 0, none⟩, ⟨some 68, .ext (.tmp 66) 1, none⟩, ⟨some 6, .mov (.tmp 67), none⟩, ⟨some 7, .mov (.tmp 68), none⟩] [6, 7]) .ret))) : XCode) = T
  simp only [ofArgs, run_seq, run_block, run_ops, run_skip, run_exit, run_ret, thenQ_normal, thenQ_exit, thenQ_ret, blockQ_normal, blockQ_exit, blockQ_ret, retQ_ret, retQ_normal, ops_nil, ops_none, got_some, ops_wT, ops_wTn, ops_wF, ops_wFn, ops_wU, dops_wT, dops_wTn, dops_wF, dops_wFn, dops_wU, run_condT, run_condF, alt2_int, altB_bool, altI_int, altBB_bool, v_min, v_max, v_not, v_neg, optEv_none, optEv_some, isSome'_none, isSome'_some, pExt0, pExt1, pExt2, Bool.false_and, Bool.true_and, Bool.not_true, Bool.not_false, cond_true, cond_false, dops_nil, dops_none, xval_call, v_mov, v_bin, v_len, v_ext, v_idxA, v_ld, v_st, v_app, v_appN, v_cvs, v_bs1, pBs1, v_slc, v_conv, v_fld, v_fldA, v_new, v_box, v_mks, v_copy, v_isnil, v_nilck, v_pick, ev, evs_nil, evs_cons, fr_get_cons, fr_put_nil, fr_put_cons, fr_put_some, fr_put_none, fr_keep_nil, fr_keep_cons, fr_has_nil, fr_has_cons, Option.bind_some, Option.map_some, xbin, ibin, xresult_eq, xress_nil, xress_tmp, resV, ex_some, if_true, if_false, ite_true, ite_false, reduceIte, reduceCtorEq, Nat.reduceEqDiff, Nat.reduceLT, Nat.reduceLeDiff, Int.reduceLT, Int.reduceLE, Nat.zero_add, Nat.reduceAdd, Bool.false_eq_true, decide_eq_true_eq, decide_eq_false_iff_not, true_implies, false_implies, and_true, true_and]
  refine scheck_ok tr h0 h1 v l H _ hv hok hl ?_
  intro H1 x1
  subst hT
  generalize hT : ((.seq (.seq (.ops [⟨some 23, .mov (.tmp 1), none⟩, ⟨some 24, .len (.tmp 23), none⟩, ⟨some 25, .mov (.const (.int .i64 0)), none⟩] [2, 9, 23, 24, 25]) (.block 0 (.loop xsect_Format_l0))) (.seq (.ops [⟨some 64, .mov (.tmp 9), none⟩, ⟨some 65, .mov (.tmp 2), none⟩, ⟨some 66, .call 29 [.tmp 64, .tmp 65], none⟩, ⟨some 67, .ext (.tmp 66) 0, none⟩, ⟨some 68, .ext (.tmp 66) 1, none⟩, ⟨some 6, .mov (.tmp 67), none⟩, ⟨some 7, .mov (.tmp 68), none⟩] [6, 7]) .ret)) : XCode) = T
  simp only [ofArgs, run_seq, run_block, run_ops, run_skip, run_exit, run_ret, thenQ_normal, thenQ_exit, thenQ_ret, blockQ_normal, blockQ_exit, blockQ_ret, retQ_ret, retQ_normal, ops_nil, ops_none, got_some, ops_wT, ops_wTn, ops_wF, ops_wFn, ops_wU, dops_wT, dops_wTn, dops_wF, dops_wFn, dops_wU, run_condT, run_condF, alt2_int, altB_bool, altI_int, altBB_bool, v_min, v_max, v_not, v_neg, optEv_none, optEv_some, isSome'_none, isSome'_some, pExt0, pExt1, pExt2, Bool.false_and, Bool.true_and, Bool.not_true, Bool.not_false, cond_true, cond_false, dops_nil, dops_none, xval_call, v_mov, v_bin, v_len, v_ext, v_idxA, v_ld, v_st, v_app, v_appN, v_cvs, v_bs1, pBs1, v_slc, v_conv, v_fld, v_fldA, v_new, v_box, v_mks, v_copy, v_isnil, v_nilck, v_pick, ev, evs_nil, evs_cons, fr_get_cons, fr_put_nil, fr_put_cons, fr_put_some, fr_put_none, fr_keep_nil, fr_keep_cons, fr_has_nil, fr_has_cons, Option.bind_some, Option.map_some, xbin, ibin, xresult_eq, xress_nil, xress_tmp, resV, ex_some, if_true, if_false, ite_true, ite_false, reduceIte, reduceCtorEq, Nat.reduceEqDiff, Nat.reduceLT, Nat.reduceLeDiff, Int.reduceLT, Int.reduceLE, Nat.zero_add, Nat.reduceAdd, Bool.false_eq_true, decide_eq_true_eq, decide_eq_false_iff_not, true_implies, false_implies, and_true, true_and, bne_self_eq_false]
  refine gap_ok H1 _ ?_
  intro vg H2 og x2
  obtain ⟨s1, s2⟩ := slice_one og.1
  have pb := fun H => pB2_of (.bool false) vg H s1 s2
  have ps := fun H => pS2_of false vg H s1
  have x3 := hext_push H2 ⟨[.bool false, vg], 2, false, false⟩
  have n3 : (H2.push ⟨[.bool false, vg], 2, false, false⟩).n = H2.n + 1 := rfl
  have ol : OL PTL H2.n (H2.push ⟨[.bool false, vg], 2, false, false⟩) (.slice (some ⟨H2.n, 0, none⟩) 1 1) [(false, gp, vg)] := Own.pushed H2 [.bool false, vg] 2 1 false rfl
  have x13 := (x1.trans x2).trans x3
  have hv3 := hv.ext x13
  have e0 := hv3.1.len_ok
  have og3 := Own.ext x3 og
  subst hT
  generalize hT : ((.seq (.ops [⟨some 64, .mov (.tmp 9), none⟩, ⟨some 65, .mov (.tmp 2), none⟩, ⟨some 66, .call 29 [.tmp 64, .tmp 65], none⟩, ⟨some 67, .ext (.tmp 66) 0, none⟩, ⟨some 68, .ext (.tmp 66) 1, none⟩, ⟨some 6, .mov (.tmp 67), none⟩, ⟨some 7, .mov (.tmp 68), none⟩] [6, 7]) .ret) : XCode) = T
  simp only [ofArgs, run_seq, run_block, run_ops, run_skip, run_exit, run_ret, thenQ_normal, thenQ_exit, thenQ_ret, blockQ_normal, blockQ_exit, blockQ_ret, retQ_ret, retQ_normal, ops_nil, ops_none, got_some, ops_wT, ops_wTn, ops_wF, ops_wFn, ops_wU, dops_wT, dops_wTn, dops_wF, dops_wFn, dops_wU, run_condT, run_condF, alt2_int, altB_bool, altI_int, altBB_bool, v_min, v_max, v_not, v_neg, optEv_none, optEv_some, isSome'_none, isSome'_some, pExt0, pExt1, pExt2, Bool.false_and, Bool.true_and, Bool.not_true, Bool.not_false, cond_true, cond_false, dops_nil, dops_none, xval_call, v_mov, v_bin, v_len, v_ext, v_idxA, v_ld, v_st, v_app, v_appN, v_cvs, v_bs1, pBs1, v_slc, v_conv, v_fld, v_fldA, v_new, v_box, v_mks, v_copy, v_isnil, v_nilck, v_pick, ev, evs_nil, evs_cons, fr_get_cons, fr_put_nil, fr_put_cons, fr_put_some, fr_put_none, fr_keep_nil, fr_keep_cons, fr_has_nil, fr_has_cons, Option.bind_some, Option.map_some, xbin, ibin, xresult_eq, xress_nil, xress_tmp, resV, ex_some, if_true, if_false, ite_true, ite_false, reduceIte, reduceCtorEq, Nat.reduceEqDiff, Nat.reduceLT, Nat.reduceLeDiff, Int.reduceLT, Int.reduceLE, Nat.zero_add, Nat.reduceAdd, Bool.false_eq_true, decide_eq_true_eq, decide_eq_false_iff_not, true_implies, false_implies, and_true, true_and, v_b2, pb, v_bs21, ps, e0]
  generalize H2.push ⟨[.bool false, vg], 2, false, false⟩ = H3 at *
  have m1 := x1.1
  have m2 := x2.1
  have of3 : OutF H.n H3 (.slice (some ⟨H2.n, 0, none⟩) 1 1) [(false, gp, vg)] := ⟨ol.le (by omega), fun p hp => by simp only [List.mem_singleton] at hp; subst hp; exact og3.1, fun p hp b hb hv' => by
    simp only [List.mem_singleton] at hp; subst hp
    have := og.1.lt hb
    obtain ⟨o, a, c, e⟩ := hv'
    simp only [Value.slice.injEq, Option.some.injEq, Addr.mk.injEq] at e
    omega⟩
  refine fmt_l0 H.n (.int .i64 cell) v l [] [(false, gp, vg)] _ H3 0 _ _ (by simpa using hv3) (fun b hb => hv.1.lt hb) (fun s hs b hb => (hv.2 s (by simpa using hs)).lt hb) of3 (by omega) hok (by simp; omega) (by simp; omega) (by simp) (by simp) ?_
  intro H4 vp lp of4 hm k4
  have hm' : lp.map strip = fmtP l := hm
  have can := fmt_canon l hok
  have hll : lp.length = 1 + 2 * l.length := by have := congrArg List.length hm'; rw [List.length_map, fmtP_len] at this; exact this
  have hsz : szT lp = 8 + 154 * l.length := by unfold szT; rw [hm']; exact fmt_sz l hok
  subst hT
  simp only [ofArgs, run_seq, run_block, run_ops, run_skip, run_exit, run_ret, thenQ_normal, thenQ_exit, thenQ_ret, blockQ_normal, blockQ_exit, blockQ_ret, retQ_ret, retQ_normal, ops_nil, ops_none, got_some, ops_wT, ops_wTn, ops_wF, ops_wFn, ops_wU, dops_wT, dops_wTn, dops_wF, dops_wFn, dops_wU, run_condT, run_condF, alt2_int, altB_bool, altI_int, altBB_bool, v_min, v_max, v_not, v_neg, optEv_none, optEv_some, isSome'_none, isSome'_some, pExt0, pExt1, pExt2, Bool.false_and, Bool.true_and, Bool.not_true, Bool.not_false, cond_true, cond_false, dops_nil, dops_none, xval_call, v_mov, v_bin, v_len, v_ext, v_idxA, v_ld, v_st, v_app, v_appN, v_cvs, v_bs1, pBs1, v_slc, v_conv, v_fld, v_fldA, v_new, v_box, v_mks, v_copy, v_isnil, v_nilck, v_pick, ev, evs_nil, evs_cons, fr_get_cons, fr_put_nil, fr_put_cons, fr_put_some, fr_put_none, fr_keep_nil, fr_keep_cons, fr_has_nil, fr_has_cons, Option.bind_some, Option.map_some, xbin, ibin, xresult_eq, xress_nil, xress_tmp, resV, ex_some, if_true, if_false, ite_true, ite_false, reduceIte, reduceCtorEq, Nat.reduceEqDiff, Nat.reduceLT, Nat.reduceLeDiff, Int.reduceLT, Int.reduceLE, Nat.zero_add, Nat.reduceAdd, Bool.false_eq_true, decide_eq_true_eq, decide_eq_false_iff_not, true_implies, false_implies, and_true, true_and]
  refine writeP_ok lp vp cell H4 _ of4.rp (flat_parts lp (by rw [hm']; exact can)) (by omega) (by omega) hc hc2 ?_
  rw [hm']
  intro vt H5 ot x5
  simp only [ofArgs, run_seq, run_block, run_ops, run_skip, run_exit, run_ret, thenQ_normal, thenQ_exit, thenQ_ret, blockQ_normal, blockQ_exit, blockQ_ret, retQ_ret, retQ_normal, ops_nil, ops_none, got_some, ops_wT, ops_wTn, ops_wF, ops_wFn, ops_wU, dops_wT, dops_wTn, dops_wF, dops_wFn, dops_wU, run_condT, run_condF, alt2_int, altB_bool, altI_int, altBB_bool, v_min, v_max, v_not, v_neg, optEv_none, optEv_some, isSome'_none, isSome'_some, pExt0, pExt1, pExt2, Bool.false_and, Bool.true_and, Bool.not_true, Bool.not_false, cond_true, cond_false, dops_nil, dops_none, xval_call, v_mov, v_bin, v_len, v_ext, v_idxA, v_ld, v_st, v_app, v_appN, v_cvs, v_bs1, pBs1, v_slc, v_conv, v_fld, v_fldA, v_new, v_box, v_mks, v_copy, v_isnil, v_nilck, v_pick, ev, evs_nil, evs_cons, fr_get_cons, fr_put_nil, fr_put_cons, fr_put_some, fr_put_none, fr_keep_nil, fr_keep_cons, fr_has_nil, fr_has_cons, Option.bind_some, Option.map_some, xbin, ibin, xresult_eq, xress_nil, xress_tmp, resV, ex_some, if_true, if_false, ite_true, ite_false, reduceIte, reduceCtorEq, Nat.reduceEqDiff, Nat.reduceLT, Nat.reduceLeDiff, Int.reduceLT, Int.reduceLE, Nat.zero_add, Nat.reduceAdd, Bool.false_eq_true, decide_eq_true_eq, decide_eq_false_iff_not, true_implies, false_implies, and_true, true_and]
  have xx : HExt H H4 := Keep.trans (n0 := H.n) x13 k4
  exact hq vt H5 (ot.le xx.1) (xx.trans x5)

/-! ### sectors are found -/
structure OutD (n0 : Nat) (H : AH) (v : Value) (l : List SD) : Prop where
  own : OL SDL n0 H v l
  byt : ∀ s ∈ l, Byts H s.w s.bs
  dis : ∀ s ∈ l, ∀ b, inB s.w b → ¬ inB v b
theorem OutD.ext {n0 : Nat} {H H' : AH} {v : Value} {l : List SD} (h : OutD n0 H v l) (x : HExt H H') : OutD n0 H' v l := ⟨h.own.ext x, fun p hp => Sl.ext x (h.byt p hp), h.dis⟩
theorem OutD.sds {n0 : Nat} {H : AH} {v : Value} {l : List SD} (h : OutD n0 H v l) : SDs H v l := ⟨h.own.1, h.byt⟩
theorem OutD.nil (n0 : Nat) (H : AH) : OutD n0 H (.slice none 0 0) [] := ⟨OL.nil _ _ _, fun s h => by simp at h, fun s h => by simp at h⟩
theorem OutD.le {n0 n1 : Nat} {H : AH} {v : Value} {l : List SD} (h : OutD n1 H v l) (hl : n0 ≤ n1) : OutD n0 H v l := ⟨h.own.le hl, h.byt, h.dis⟩
theorem OutD.set {n0 : Nat} {H : AH} {v : Value} {l : List SD} {E : Nat} {x : Blk} (h : OutD n0 H v l) (h1 : ¬ inB v E) (h2 : ∀ s ∈ l, ¬ inB s.w E) : OutD n0 (H.set E x) v l :=
  ⟨Own.same h.own (Nat.le_refl _) fun b hb => by rw [AH.get_set, if_neg (fun e : b = E => h1 (e ▸ hb))], fun s hs => Sl.same (h.byt s hs) (Nat.le_refl _) fun b hb => by rw [AH.get_set, if_neg (fun e : b = E => h2 s hs (e ▸ hb))], h.dis⟩
/-- what is told of a sector: all but where its bytes lie -/
def told (s : SD) : Int × Int × List Int × Bool := (s.tr, s.nu, s.bs, s.bad)
theorem v_b4ii {P : Program} {T : XTab} (fr : Fr) (H : AH) (dd : Option Nat) (x y : Operand) (z0 z1 z2 z3 : Value) : xval P (xc P T) ⟨dd, .build [z0, z1, z2, z3] [(0, 1, x), (1, 1, y)], none⟩ fr H =
    altNN (ev fr x) (ev fr y) (fun k n k2 n2 => some (.agg #[.int k n, .int k2 n2, z2, z3], H)) (xop P fr H (.build [z0, z1, z2, z3] [(0, 1, x), (1, 1, y)])) := by
  rw [xval_op dd _ fr H rfl]
  unfold altNN
  split
  · rename_i k n k2 n2 h h2
    rw [e_build]
    simp only [xfill, h, h2]
    rfl
  · rfl
def pS4 (v : Value) (H : AH) : Option (Value × AH) :=
  match vcells v with
  | [a, b, c, d] => bif one a && one b && one c && one d then some (.slice (some ⟨H.n, 0, none⟩) 1 1, H.push ⟨[a, b, c, d], 4, false, false⟩) else none
  | _ => none
theorem v_bs41 {P : Program} {T : XTab} (fr : Fr) (H : AH) (dd : Option Nat) (e : TypeId) (x : Operand) (z0 z1 z2 z3 : Value) : xval P (xc P T) ⟨dd, .bslice e 4 1 [z0, z1, z2, z3] [(0, x)], none⟩ fr H = (ev fr x).bind fun v => pS4 v H := by
  rw [xval_op dd _ fr H rfl, e_bslice]
  rcases hx : ev fr x with _ | v
  · simp [xfill, hx]
  · simp only [List.map_cons, List.map_nil, rep, List.append_nil, Option.bind_some, pS4, xfill, hx]
    rcases vcells v with _ | ⟨a, _ | ⟨b, _ | ⟨d, _ | ⟨d2, _ | ⟨d3, r⟩⟩⟩⟩⟩
    · rfl
    · have hb : [a].length.beq 4 = false := by rw [Tr.beq_eq]; simp
      simp only [hb, Bool.false_and, cond_false]
      rfl
    · have hb : [a, b].length.beq 4 = false := by rw [Tr.beq_eq]; simp
      simp only [hb, Bool.false_and, cond_false]
      rfl
    · have hb : [a, b, d].length.beq 4 = false := by rw [Tr.beq_eq]; simp
      simp only [hb, Bool.false_and, cond_false]
      rfl
    · cases h : one a <;> cases h2 : one b <;> cases h3 : one d <;> cases h4 : one d2 <;> simp [h, h2, h3, h4, splice, show Nat.ble 4 4 = true from rfl, show (4 : Nat).beq 4 = true from rfl]
    · have hb : (a :: b :: d :: d2 :: d3 :: r).length.beq 4 = false := by rw [Tr.beq_eq]; simp
      simp only [hb, Bool.false_and, cond_false]
      rfl
theorem pS4_of (s : SD) (H : AH) (h1 : one s.w = true) : pS4 (.agg #[.int .i64 s.tr, .int .i64 s.nu, s.w, .bool s.bad]) H = some (.slice (some ⟨H.n, 0, none⟩) 1 1, H.push ⟨SDL.cells [s], 4, false, false⟩) := by
  have e : vcells (.agg #[.int .i64 s.tr, .int .i64 s.nu, s.w, .bool s.bad]) = [.int .i64 s.tr, .int .i64 s.nu, s.w, .bool s.bad] := rfl
  unfold pS4; rw [e]
  simp only [show one (.int .i64 s.tr) = true from rfl, show one (.int .i64 s.nu) = true from rfl, h1, show one (.bool s.bad) = true from rfl, Bool.true_and, cond_true]
  rfl
theorem bd_parts (s : SD) (h : SdOk s) : ∃ t : List Int, t.length = 2 ∧ bdS s = 251 :: (s.bs ++ t) := by
  have hb := h.2.2.2.2.1
  have hl := bdS_len s h
  have hs : (sealed (251 :: s.bs)).take 129 = 251 :: s.bs := by
    unfold sealed
    rw [List.take_left' (by simp [hb])]
  have ht : (bdS s).take 129 = 251 :: s.bs := by
    unfold bdS
    split
    · unfold flipl
      have hL : (sealed (251 :: s.bs)).length = 131 := by rw [sealed_len, List.length_cons, hb]
      rw [hL, List.take_set, List.set_eq_of_length_le (by rw [List.length_take]; omega), hs]
    · exact hs
  refine ⟨(bdS s).drop 129, by rw [List.length_drop, hl], ?_⟩
  have := List.take_append_drop 129 (bdS s)
  rw [ht] at this
  exact this.symm
end Go.Proofs.Ytejedmocjdcdgaa.D

set_option linter.unusedSimpArgs false
set_option linter.unusedVariables false
namespace Go.Proofs.Ytejedmocjdcdgaa.D
open Go Go.Det

/-- crc.Open of a body: whether it is good -/
theorem open_body (s : SD) (h : SdOk s) (w : Value) (H : AH) (Q : Value → AH → Prop) (hw : Byts H w (bdS s)) (hq : ∀ v H', HExt H H' → Q (.tuple [v, .bool (!s.bad)].toArray) H') : Got (xc Try.prog tab 93 [w] H) Q := by
  have hl := bdS_len s h
  have h8 := bdS_b8 s h
  have hz := crc_sealed (251 :: s.bs) (bd_b8 s h)
  cases hb : s.bad with
  | true =>
    have e : bdS s = flipl (sealed (251 :: s.bs)) := by unfold bdS; rw [hb]; rfl
    have hne : crcFold 65535 (bdS s) ≠ 0 := by
      rw [e]
      exact flipl_crc _ (sealed_b8 _ (bd_b8 s h)) (by rw [sealed_len]; simp) hz
    have := open_bad (bdS s) (by omega) (by omega) h8 w H hw hne
    rw [hb] at hq
    rw [this, got_some]
    exact hq _ H (HExt.refl H)
  | false =>
    have e : bdS s = sealed (251 :: s.bs) := by unfold bdS; rw [hb]; rfl
    rw [hb] at hq
    refine open_ok (bdS s) (by omega) (by omega) h8 w H Q hw (by rw [e]; exact hz) ?_
    intro v H' o x
    exact hq v H' x

set_option maxHeartbeats 8000000 in
/-- a header is read -/
theorem scan_head (vp : Value) (N : Int) (s : SD) (hs : SdOk s) (w vo : Value) (E : Nat) (pre rest : List T3) (H : AH) (i : Int) (opn : Bool) (a b c d : Value) (Q : XExit → Fr → AH → Prop) (hr : RP H vp (pre ++ (true, hdS s ++ gp, w) :: rest)) (hi : i = (pre.length : Int)) (hlt : i < N) (hN : N ≤ 100000) (hE : H.get E = some ⟨[a, b, c, d], 1, false, false⟩) (hEn : E < H.n)
    (hq : ∀ H', H.n ≤ H'.n → (∀ d, d < H.n → d ≠ E → H'.get d = H.get d) → H'.get E = some ⟨[.int .i64 s.tr, .int .i64 s.nu, .slice none 0 0, .bool false], 1, false, false⟩ →
      Run Try.prog tab (.loop xsect_Scan_l0) [(8, vo), (9, .bool true), (10, .pointer (some ⟨E, 0, none⟩)), (25, vp), (26, .int .i64 N), (27, .int .i64 (i + 1))] H' Q) :
    Run Try.prog tab (.loop xsect_Scan_l0) [(8, vo), (9, .bool opn), (10, .pointer (some ⟨E, 0, none⟩)), (25, vp), (26, .int .i64 N), (27, .int .i64 i)] H Q := by
  rw [run_loop]
  generalize hL : XCode.loop xsect_Scan_l0 = L
  rw [hL] at hq
  have e1 := rp_idx hr .i64 i hi
  have e2 := rp_ld hr
  have hb := hr.2 (true, hdS s ++ gp, w) (by simp)
  obtain ⟨o1, o2⟩ := slice_one hb
  have st := b2_st H true w o1
  have hx := b2_ext H true w
  have g2 := b2_get H true w
  have e4 := bx2_0 g2
  have e5 := bx2_1 g2
  have nn := b2_n H true w
  have hb2 : Byts (b2 H true w) w (hdS s ++ gp) := Sl.ext hx hb
  have hE2 := (hx.2 E hEn).trans hE
  have e6 := byts_len' hb2
  have hlen : (hdS s ++ gp).length = 13 := by rw [List.length_append, hdS_len]; rfl
  rw [hlen] at e6
  have c0 : (((13 : Nat) : Int) == 0) = false := rfl
  have c5 : (((13 : Nat) : Int) ≥ 5) := by decide
  have i0 := byts_idx hb2 0 0 rfl (by omega)
  have hd0 : (hdS s ++ gp)[0]? = some 254 := rfl
  have hd1 : (hdS s ++ gp)[1]? = some s.tr := rfl
  have hd2 : (hdS s ++ gp)[2]? = some s.nu := rfl
  have v0 := byts_ld hb2 0 _ hd0
  obtain ⟨s', k1, k2, k3, _⟩ := xslc_ok (lo := none) (hi := some (.int .i64 5)) (i := 0) (h := 5) hb2 rfl rfl (by omega) (by omega)
  have k2' : Byts (b2 H true w) s' (hdS s) := by
    have e : (((hdS s ++ gp).map (Value.int .u8)).drop (0 * 1)).take ((5 - 0) * 1) = (hdS s).map (.int .u8) := by
      rw [List.map_append, Nat.zero_mul, List.drop_zero, List.take_left' (by rw [List.length_map, hdS_len])]
    rw [e] at k2
    have hl5 : (hdS s).length = 5 := hdS_len s
    unfold Byts
    rw [hl5]
    exact k2
  obtain ⟨s1, s2, s3, s4, s5, s6⟩ := id hs
  have w3 := wrI (i + 1) (by omega) (by omega)
  have cc : ((254 : Int) == 254) = true := rfl
  simp only [xsect_Scan_l0, ofArgs, run_seq, run_block, run_ops, run_skip, run_exit, run_ret, thenQ_normal, thenQ_exit, thenQ_ret, blockQ_normal, blockQ_exit, blockQ_ret, retQ_ret, retQ_normal, ops_nil, ops_none, got_some, ops_wT, ops_wTn, ops_wF, ops_wFn, ops_wU, dops_wT, dops_wTn, dops_wF, dops_wFn, dops_wU, run_condT, run_condF, alt2_int, altB_bool, altI_int, altBB_bool, v_min, v_max, v_not, v_neg, optEv_none, optEv_some, isSome'_none, isSome'_some, pExt0, pExt1, pExt2, Bool.false_and, Bool.true_and, Bool.not_true, Bool.not_false, cond_true, cond_false, dops_nil, dops_none, xval_call, v_mov, v_bin, v_len, v_ext, v_idxA, v_ld, v_st, v_app, v_appN, v_cvs, v_bs1, pBs1, v_slc, v_conv, v_fld, v_fldA, v_new, v_box, v_mks, v_copy, v_isnil, v_nilck, v_pick, ev, evs_nil, evs_cons, fr_get_cons, fr_put_nil, fr_put_cons, fr_put_some, fr_put_none, fr_keep_nil, fr_keep_cons, fr_has_nil, fr_has_cons, Option.bind_some, Option.map_some, xbin, ibin, xresult_eq, xress_nil, xress_tmp, resV, ex_some, if_true, if_false, ite_true, ite_false, reduceIte, reduceCtorEq, Nat.reduceEqDiff, Nat.reduceLT, Nat.reduceLeDiff, Int.reduceLT, Int.reduceLE, Nat.zero_add, Nat.reduceAdd, Bool.false_eq_true, decide_eq_true_eq, decide_eq_false_iff_not, true_implies, false_implies, and_true, true_and, hlt, decide_true, e1, e2, st, fldA0, fldA1, e4, e5, e6, c0, c5, i0, v0, cc, k1]
  refine open_ok (hdS s) (by rw [hdS_len]; omega) (by rw [hdS_len]; omega) (sealed_b8 _ (hd_b8 s hs)) s' _ _ k2' (crc_sealed _ (hd_b8 s hs)) ?_
  intro v3 H3 o3 x3
  have hb3 : Byts H3 w (hdS s ++ gp) := Sl.ext x3 hb2
  have i1 := byts_idx hb3 1 1 rfl (by omega)
  have v1 := byts_ld hb3 1 _ hd1
  have i2 := byts_idx hb3 2 2 rfl (by omega)
  have v2 := byts_ld hb3 2 _ hd2
  have q1 : pConv IntKind.i64 (.int .u8 s.tr) H3 = some (.int .i64 s.tr, H3) := by unfold pConv; simp only [wrI s.tr (by omega) (by omega)]
  have q2 : pConv IntKind.i64 (.int .u8 s.nu) H3 = some (.int .i64 s.nu, H3) := by unfold pConv; simp only [wrI s.nu (by omega) (by omega)]
  have hE3 := (x3.2 E (by omega)).trans hE2
  have stE := bx4_st (a' := .int .i64 s.tr) (b' := .int .i64 s.nu) (c' := .slice none 0 0) (d' := .bool false) hE3 rfl rfl rfl rfl
  simp only [ofArgs, run_seq, run_block, run_ops, run_skip, run_exit, run_ret, thenQ_normal, thenQ_exit, thenQ_ret, blockQ_normal, blockQ_exit, blockQ_ret, retQ_ret, retQ_normal, ops_nil, ops_none, got_some, ops_wT, ops_wTn, ops_wF, ops_wFn, ops_wU, dops_wT, dops_wTn, dops_wF, dops_wFn, dops_wU, run_condT, run_condF, alt2_int, altB_bool, altI_int, altBB_bool, v_min, v_max, v_not, v_neg, optEv_none, optEv_some, isSome'_none, isSome'_some, pExt0, pExt1, pExt2, Bool.false_and, Bool.true_and, Bool.not_true, Bool.not_false, cond_true, cond_false, dops_nil, dops_none, xval_call, v_mov, v_bin, v_len, v_ext, v_idxA, v_ld, v_st, v_app, v_appN, v_cvs, v_bs1, pBs1, v_slc, v_conv, v_fld, v_fldA, v_new, v_box, v_mks, v_copy, v_isnil, v_nilck, v_pick, ev, evs_nil, evs_cons, fr_get_cons, fr_put_nil, fr_put_cons, fr_put_some, fr_put_none, fr_keep_nil, fr_keep_cons, fr_has_nil, fr_has_cons, Option.bind_some, Option.map_some, xbin, ibin, xresult_eq, xress_nil, xress_tmp, resV, ex_some, if_true, if_false, ite_true, ite_false, reduceIte, reduceCtorEq, Nat.reduceEqDiff, Nat.reduceLT, Nat.reduceLeDiff, Int.reduceLT, Int.reduceLE, Nat.zero_add, Nat.reduceAdd, Bool.false_eq_true, decide_eq_true_eq, decide_eq_false_iff_not, true_implies, false_implies, and_true, true_and]
  refine run_dops _ _ _ _ _ rfl ?_
  simp only [ofArgs, run_seq, run_block, run_ops, run_skip, run_exit, run_ret, thenQ_normal, thenQ_exit, thenQ_ret, blockQ_normal, blockQ_exit, blockQ_ret, retQ_ret, retQ_normal, ops_nil, ops_none, got_some, ops_wT, ops_wTn, ops_wF, ops_wFn, ops_wU, dops_wT, dops_wTn, dops_wF, dops_wFn, dops_wU, run_condT, run_condF, alt2_int, altB_bool, altI_int, altBB_bool, v_min, v_max, v_not, v_neg, optEv_none, optEv_some, isSome'_none, isSome'_some, pExt0, pExt1, pExt2, Bool.false_and, Bool.true_and, Bool.not_true, Bool.not_false, cond_true, cond_false, dops_nil, dops_none, xval_call, v_mov, v_bin, v_len, v_ext, v_idxA, v_ld, v_st, v_app, v_appN, v_cvs, v_bs1, pBs1, v_slc, v_conv, v_fld, v_fldA, v_new, v_box, v_mks, v_copy, v_isnil, v_nilck, v_pick, ev, evs_nil, evs_cons, fr_get_cons, fr_put_nil, fr_put_cons, fr_put_some, fr_put_none, fr_keep_nil, fr_keep_cons, fr_has_nil, fr_has_cons, Option.bind_some, Option.map_some, xbin, ibin, xresult_eq, xress_nil, xress_tmp, resV, ex_some, if_true, if_false, ite_true, ite_false, reduceIte, reduceCtorEq, Nat.reduceEqDiff, Nat.reduceLT, Nat.reduceLeDiff, Int.reduceLT, Int.reduceLE, Nat.zero_add, Nat.reduceAdd, Bool.false_eq_true, decide_eq_true_eq, decide_eq_false_iff_not, true_implies, false_implies, and_true, true_and, i1, v1, i2, v2, q1, q2, v_b4ii, altNN_int, stE, w3]
  have n3 := x3.1
  refine hq _ (by show H.n ≤ H3.n; omega) (fun d hd hde => ?_) (by rw [AH.get_set, if_pos rfl])
  rw [AH.get_set, if_neg hde]
  exact (x3.2 d (by omega)).trans (hx.2 d hd)

set_option maxHeartbeats 8000000 in
/-- a body is read -/
theorem scan_body (n0 : Nat) (vp : Value) (N : Int) (s : SD) (hs : SdOk s) (w vo : Value) (lo : List SD) (E : Nat) (pre rest : List T3) (H : AH) (i : Int) (Q : XExit → Fr → AH → Prop) (hr : RP H vp (pre ++ (true, bdS s ++ gp, w) :: rest)) (hi : i = (pre.length : Int)) (hlt : i < N) (hN : N ≤ 100000) (hE : H.get E = some ⟨[.int .i64 s.tr, .int .i64 s.nu, .slice none 0 0, .bool false], 1, false, false⟩) (hEn : E < n0)
    (ho : OutD n0 H vo lo) (hn : n0 ≤ H.n) (hol : lo.length ≤ 100)
    (hlo : ∀ t ∈ lo, ∀ b, inB t.w b → n0 ≤ b)
    (hq : ∀ H' vo' w', OutD n0 H' vo' (lo ++ [{ s with w := w' }]) → (∀ b, inB w' b → n0 ≤ b) → H.n ≤ H'.n → (∀ d, d < n0 → d ≠ E → H'.get d = H.get d) → H'.get E = some ⟨[.int .i64 s.tr, .int .i64 s.nu, w', .bool s.bad], 1, false, false⟩ →
      Run Try.prog tab (.loop xsect_Scan_l0) [(8, vo'), (9, .bool false), (10, .pointer (some ⟨E, 0, none⟩)), (25, vp), (26, .int .i64 N), (27, .int .i64 (i + 1))] H' Q) :
    Run Try.prog tab (.loop xsect_Scan_l0) [(8, vo), (9, .bool true), (10, .pointer (some ⟨E, 0, none⟩)), (25, vp), (26, .int .i64 N), (27, .int .i64 i)] H Q := by
  rw [run_loop]
  generalize hL : XCode.loop xsect_Scan_l0 = L
  rw [hL] at hq
  have e1 := rp_idx hr .i64 i hi
  have e2 := rp_ld hr
  have hb := hr.2 (true, bdS s ++ gp, w) (by simp)
  obtain ⟨o1, o2⟩ := slice_one hb
  have st := b2_st H true w o1
  have hx := b2_ext H true w
  have g2 := b2_get H true w
  have e4 := bx2_0 g2
  have e5 := bx2_1 g2
  have nn := b2_n H true w
  have hb2 : Byts (b2 H true w) w (bdS s ++ gp) := Sl.ext hx hb
  have hE2 := (hx.2 E (by omega)).trans hE
  have e6 := byts_len' hb2
  have hlen : (bdS s ++ gp).length = 139 := by rw [List.length_append, bdS_len s hs]; rfl
  rw [hlen] at e6
  have c0 : (((139 : Nat) : Int) == 0) = false := rfl
  have c5 : (((139 : Nat) : Int) ≥ 131) := by decide
  have i0 := byts_idx hb2 0 0 rfl (by omega)
  obtain ⟨t, ht, hbd⟩ := bd_parts s hs
  have hd0 : (bdS s ++ gp)[0]? = some 251 := by rw [hbd]; rfl
  have v0 := byts_ld hb2 0 _ hd0
  obtain ⟨s', k1, k2, k3, _⟩ := xslc_ok (lo := none) (hi := some (.int .i64 131)) (i := 0) (h := 131) hb2 rfl rfl (by omega) (by omega)
  have k2' : Byts (b2 H true w) s' (bdS s) := by
    have hl5 := bdS_len s hs
    have e : (((bdS s ++ gp).map (Value.int .u8)).drop (0 * 1)).take ((131 - 0) * 1) = (bdS s).map (.int .u8) := by
      rw [List.map_append, Nat.zero_mul, List.drop_zero, List.take_left' (by rw [List.length_map, hl5])]
    rw [e] at k2
    unfold Byts
    rw [hl5]
    exact k2
  obtain ⟨s1, s2, s3, s4, s5, s6⟩ := id hs
  have w3 := wrI (i + 1) (by omega) (by omega)
  have cc : ((251 : Int) == 254) = false := rfl
  have cd : ((251 : Int) == 251) = true := rfl
  simp only [xsect_Scan_l0, ofArgs, run_seq, run_block, run_ops, run_skip, run_exit, run_ret, thenQ_normal, thenQ_exit, thenQ_ret, blockQ_normal, blockQ_exit, blockQ_ret, retQ_ret, retQ_normal, ops_nil, ops_none, got_some, ops_wT, ops_wTn, ops_wF, ops_wFn, ops_wU, dops_wT, dops_wTn, dops_wF, dops_wFn, dops_wU, run_condT, run_condF, alt2_int, altB_bool, altI_int, altBB_bool, v_min, v_max, v_not, v_neg, optEv_none, optEv_some, isSome'_none, isSome'_some, pExt0, pExt1, pExt2, Bool.false_and, Bool.true_and, Bool.not_true, Bool.not_false, cond_true, cond_false, dops_nil, dops_none, xval_call, v_mov, v_bin, v_len, v_ext, v_idxA, v_ld, v_st, v_app, v_appN, v_cvs, v_bs1, pBs1, v_slc, v_conv, v_fld, v_fldA, v_new, v_box, v_mks, v_copy, v_isnil, v_nilck, v_pick, ev, evs_nil, evs_cons, fr_get_cons, fr_put_nil, fr_put_cons, fr_put_some, fr_put_none, fr_keep_nil, fr_keep_cons, fr_has_nil, fr_has_cons, Option.bind_some, Option.map_some, xbin, ibin, xresult_eq, xress_nil, xress_tmp, resV, ex_some, if_true, if_false, ite_true, ite_false, reduceIte, reduceCtorEq, Nat.reduceEqDiff, Nat.reduceLT, Nat.reduceLeDiff, Int.reduceLT, Int.reduceLE, Nat.zero_add, Nat.reduceAdd, Bool.false_eq_true, decide_eq_true_eq, decide_eq_false_iff_not, true_implies, false_implies, and_true, true_and, hlt, decide_true, e1, e2, st, fldA0, fldA1, e4, e5, e6, c0, c5, i0, v0, cc, cd, k1]
  refine open_body s hs s' _ _ k2' ?_
  intro v3 H3 x3
  have n3 := x3.1
  have hb3 : Byts H3 w (bdS s ++ gp) := Sl.ext x3 hb2
  -- the bytes' copy
  have x4 := hext_push H3 ⟨[], 1, false, false⟩
  have n4 : (H3.push ⟨[], 1, false, false⟩).n = H3.n + 1 := rfl
  have o4 : OwnB H3.n (H3.push ⟨[], 1, false, false⟩) (.slice (some ⟨H3.n, 0, none⟩) 0 0) [] := Own.pushed H3 [] 1 0 false rfl
  have hb4 : Byts (H3.push ⟨[], 1, false, false⟩) w (bdS s ++ gp) := Sl.ext x4 hb3
  obtain ⟨s'', q1, q2, q3, _⟩ := xslc_ok (lo := some (.int .i64 1)) (hi := some (.int .i64 129)) (i := 1) (h := 129) hb4 rfl rfl (by omega) (by omega)
  have q2' : Byts (H3.push ⟨[], 1, false, false⟩) s'' s.bs := by
    have e : (((bdS s ++ gp).map (Value.int .u8)).drop (1 * 1)).take ((129 - 1) * 1) = s.bs.map (.int .u8) := by
      rw [hbd]
      simp only [List.cons_append, List.map_cons, List.drop_succ_cons, List.drop_zero, List.append_assoc, List.map_append]
      rw [List.take_left' (by rw [List.length_map, s5])]
    rw [e] at q2
    unfold Byts
    rw [s5]
    exact q2
  have hE4 := (x4.2 E (by omega)).trans ((x3.2 E (by omega)).trans hE2)
  simp only [ofArgs, run_seq, run_block, run_ops, run_skip, run_exit, run_ret, thenQ_normal, thenQ_exit, thenQ_ret, blockQ_normal, blockQ_exit, blockQ_ret, retQ_ret, retQ_normal, ops_nil, ops_none, got_some, ops_wT, ops_wTn, ops_wF, ops_wFn, ops_wU, dops_wT, dops_wTn, dops_wF, dops_wFn, dops_wU, run_condT, run_condF, alt2_int, altB_bool, altI_int, altBB_bool, v_min, v_max, v_not, v_neg, optEv_none, optEv_some, isSome'_none, isSome'_some, pExt0, pExt1, pExt2, Bool.false_and, Bool.true_and, Bool.not_true, Bool.not_false, cond_true, cond_false, dops_nil, dops_none, xval_call, v_mov, v_bin, v_len, v_ext, v_idxA, v_ld, v_st, v_app, v_appN, v_cvs, v_bs1, pBs1, v_slc, v_conv, v_fld, v_fldA, v_new, v_box, v_mks, v_copy, v_isnil, v_nilck, v_pick, ev, evs_nil, evs_cons, fr_get_cons, fr_put_nil, fr_put_cons, fr_put_some, fr_put_none, fr_keep_nil, fr_keep_cons, fr_has_nil, fr_has_cons, Option.bind_some, Option.map_some, xbin, ibin, xresult_eq, xress_nil, xress_tmp, resV, ex_some, if_true, if_false, ite_true, ite_false, reduceIte, reduceCtorEq, Nat.reduceEqDiff, Nat.reduceLT, Nat.reduceLeDiff, Int.reduceLT, Int.reduceLE, Nat.zero_add, Nat.reduceAdd, Bool.false_eq_true, decide_eq_true_eq, decide_eq_false_iff_not, true_implies, false_implies, and_true, true_and, v_bs0, q1]
  generalize H3.push ⟨[], 1, false, false⟩ = H4 at *
  refine appB o4 (by omega) q2' (by simp; omega) ?_
  intro w' H5 o5 st5
  have o5' : OwnB H3.n H5 w' s.bs := by simpa using o5
  obtain ⟨a1, a2⟩ := slice_one o5'.1
  have n5 := st5.n
  have keep5 : ∀ d, d < H3.n → H5.get d = H4.get d := fun d hd => st5.get d (by omega) (fun ⟨o, l, c, e⟩ => by
    simp only [Value.slice.injEq, Option.some.injEq, Addr.mk.injEq] at e
    omega)
  have hE5 := (keep5 E (by omega)).trans hE4
  have stE := bx4_st2 hE5 a1 a2
  have hE6 : (H5.set E ⟨[.int .i64 s.tr, .int .i64 s.nu, w', .bool false], 1, false, false⟩).get E = some ⟨[.int .i64 s.tr, .int .i64 s.nu, w', .bool false], 1, false, false⟩ := by rw [AH.get_set, if_pos rfl]
  have stE2 := bx4_st3 (d' := .bool s.bad) hE6 rfl rfl
  have hE7 : ((H5.set E ⟨[.int .i64 s.tr, .int .i64 s.nu, w', .bool false], 1, false, false⟩).set E ⟨[.int .i64 s.tr, .int .i64 s.nu, w', .bool s.bad], 1, false, false⟩).get E = some ⟨[.int .i64 s.tr, .int .i64 s.nu, w', .bool s.bad], 1, false, false⟩ := by rw [AH.get_set, if_pos rfl]
  have nb : (!(!s.bad)) = s.bad := Bool.not_not _
  have l7 := bx4_ld hE7
  have ps := fun H => pS4_of { s with w := w' } H a1
  simp only [ofArgs, run_seq, run_block, run_ops, run_skip, run_exit, run_ret, thenQ_normal, thenQ_exit, thenQ_ret, blockQ_normal, blockQ_exit, blockQ_ret, retQ_ret, retQ_normal, ops_nil, ops_none, got_some, ops_wT, ops_wTn, ops_wF, ops_wFn, ops_wU, dops_wT, dops_wTn, dops_wF, dops_wFn, dops_wU, run_condT, run_condF, alt2_int, altB_bool, altI_int, altBB_bool, v_min, v_max, v_not, v_neg, optEv_none, optEv_some, isSome'_none, isSome'_some, pExt0, pExt1, pExt2, Bool.false_and, Bool.true_and, Bool.not_true, Bool.not_false, cond_true, cond_false, dops_nil, dops_none, xval_call, v_mov, v_bin, v_len, v_ext, v_idxA, v_ld, v_st, v_app, v_appN, v_cvs, v_bs1, pBs1, v_slc, v_conv, v_fld, v_fldA, v_new, v_box, v_mks, v_copy, v_isnil, v_nilck, v_pick, ev, evs_nil, evs_cons, fr_get_cons, fr_put_nil, fr_put_cons, fr_put_some, fr_put_none, fr_keep_nil, fr_keep_cons, fr_has_nil, fr_has_cons, Option.bind_some, Option.map_some, xbin, ibin, xresult_eq, xress_nil, xress_tmp, resV, ex_some, if_true, if_false, ite_true, ite_false, reduceIte, reduceCtorEq, Nat.reduceEqDiff, Nat.reduceLT, Nat.reduceLeDiff, Int.reduceLT, Int.reduceLE, Nat.zero_add, Nat.reduceAdd, Bool.false_eq_true, decide_eq_true_eq, decide_eq_false_iff_not, true_implies, false_implies, and_true, true_and, fldA2, fldA3, stE, stE2, nb, l7, v_bs41, ps]
  -- the sectors
  have ge5 : ∀ b, inB w' b → H3.n ≤ b := fun b ⟨o, l, c, e⟩ => (o5'.2 b o l c e).1
  have hvo : ¬ inB vo E := fun h => by have := ho.own.ge h; omega
  have z35 : HExt H3 H5 := ⟨by omega, fun d hd => (keep5 d hd).trans (x4.2 d hd)⟩
  have z5 : HExt H H5 := (hx.trans x3).trans z35
  have d5 := ho.ext z5
  have d6 := (d5.set (x := ⟨[.int .i64 s.tr, .int .i64 s.nu, w', .bool false], 1, false, false⟩) hvo (fun t ht h => by have := hlo t ht E h; omega)).set (x := ⟨[.int .i64 s.tr, .int .i64 s.nu, w', .bool s.bad], 1, false, false⟩) hvo (fun t ht h => by have := hlo t ht E h; omega)
  have b7 : Byts ((H5.set E ⟨[.int .i64 s.tr, .int .i64 s.nu, w', .bool false], 1, false, false⟩).set E ⟨[.int .i64 s.tr, .int .i64 s.nu, w', .bool s.bad], 1, false, false⟩) w' s.bs := Sl.same o5'.1 (Nat.le_refl _) fun b hb => by
    have := ge5 b hb
    rw [AH.get_set, if_neg (by omega), AH.get_set, if_neg (by omega)]
  have n7 : ((H5.set E ⟨[.int .i64 s.tr, .int .i64 s.nu, w', .bool false], 1, false, false⟩).set E ⟨[.int .i64 s.tr, .int .i64 s.nu, w', .bool s.bad], 1, false, false⟩).n = H5.n := rfl
  have g7 : ∀ d, d ≠ E → ((H5.set E ⟨[.int .i64 s.tr, .int .i64 s.nu, w', .bool false], 1, false, false⟩).set E ⟨[.int .i64 s.tr, .int .i64 s.nu, w', .bool s.bad], 1, false, false⟩).get d = H5.get d := fun d hd => by rw [AH.get_set, if_neg hd, AH.get_set, if_neg hd]
  generalize (H5.set E ⟨[.int .i64 s.tr, .int .i64 s.nu, w', .bool false], 1, false, false⟩).set E ⟨[.int .i64 s.tr, .int .i64 s.nu, w', .bool s.bad], 1, false, false⟩ = H7 at *
  refine OL.push [{ s with w := w' }] d6.own (by omega) (by show ([.int .i64 s.tr, .int .i64 s.nu, w', .bool s.bad] : List Value).all one = true; simp [a1, show one (.bool s.bad) = true from rfl, show one (.int .i64 s.tr) = true from rfl, show one (.int .i64 s.nu) = true from rfl]) 48 (by decide) (by simp; omega) ?_
  intro vo' H8 o8 k8 g8 new8 n8
  simp only [ofArgs, run_seq, run_block, run_ops, run_skip, run_exit, run_ret, thenQ_normal, thenQ_exit, thenQ_ret, blockQ_normal, blockQ_exit, blockQ_ret, retQ_ret, retQ_normal, ops_nil, ops_none, got_some, ops_wT, ops_wTn, ops_wF, ops_wFn, ops_wU, dops_wT, dops_wTn, dops_wF, dops_wFn, dops_wU, run_condT, run_condF, alt2_int, altB_bool, altI_int, altBB_bool, v_min, v_max, v_not, v_neg, optEv_none, optEv_some, isSome'_none, isSome'_some, pExt0, pExt1, pExt2, Bool.false_and, Bool.true_and, Bool.not_true, Bool.not_false, cond_true, cond_false, dops_nil, dops_none, xval_call, v_mov, v_bin, v_len, v_ext, v_idxA, v_ld, v_st, v_app, v_appN, v_cvs, v_bs1, pBs1, v_slc, v_conv, v_fld, v_fldA, v_new, v_box, v_mks, v_copy, v_isnil, v_nilck, v_pick, ev, evs_nil, evs_cons, fr_get_cons, fr_put_nil, fr_put_cons, fr_put_some, fr_put_none, fr_keep_nil, fr_keep_cons, fr_has_nil, fr_has_cons, Option.bind_some, Option.map_some, xbin, ibin, xresult_eq, xress_nil, xress_tmp, resV, ex_some, if_true, if_false, ite_true, ite_false, reduceIte, reduceCtorEq, Nat.reduceEqDiff, Nat.reduceLT, Nat.reduceLeDiff, Int.reduceLT, Int.reduceLE, Nat.zero_add, Nat.reduceAdd, Bool.false_eq_true, decide_eq_true_eq, decide_eq_false_iff_not, true_implies, false_implies, and_true, true_and, w3]
  have hvol : ∀ b, inB vo b → b < H.n := fun b hb => ho.own.1.lt hb
  have hw'vo : ∀ b, inB w' b → ¬ inB vo b := fun b h1 h2 => by have := ge5 b h1; have := hvol b h2; omega
  refine hq H8 vo' w' ⟨o8, fun t ht => ?_, fun t ht b hb hv => ?_⟩ (fun b hb => by have := ge5 b hb; omega) (by omega) (fun d hd hde => ?_) ?_
  · rcases List.mem_append.1 ht with h | h
    · exact Sl.same (d6.byt t h) n8 fun b hb => g8 b ((d6.byt t h).lt hb) (ho.dis t h b hb)
    · simp only [List.mem_singleton] at h
      subst h
      exact Sl.same b7 n8 fun b hb => g8 b (b7.lt hb) (hw'vo b hb)
  · rcases new8 b hv with h2 | h2
    · rcases List.mem_append.1 ht with h | h
      · exact ho.dis t h b hb h2
      · simp only [List.mem_singleton] at h
        subst h
        exact hw'vo b hb h2
    · rcases List.mem_append.1 ht with h | h
      · have := (d6.byt t h).lt hb; omega
      · simp only [List.mem_singleton] at h
        subst h
        have := b7.lt hb; omega
  · exact (k8.2 d hd).trans ((g7 d hde).trans (z5.2 d (by omega)))
  · exact (k8.2 E hEn).trans hE7
end Go.Proofs.Ytejedmocjdcdgaa.D

set_option linter.unusedSimpArgs false
set_option linter.unusedVariables false
namespace Go.Proofs.Ytejedmocjdcdgaa.D
open Go Go.Det

theorem OutD.same {n0 : Nat} {H H' : AH} {v : Value} {l : List SD} (h : OutD n0 H v l) (hn : H.n ≤ H'.n) (hlo : ∀ t ∈ l, ∀ b, inB t.w b → n0 ≤ b) (hg : ∀ b, n0 ≤ b → b < H.n → H'.get b = H.get b) : OutD n0 H' v l :=
  ⟨h.own.same hn hg, fun s hs => Sl.same (h.byt s hs) hn fun b hb => hg b (hlo s hs b hb) ((h.byt s hs).lt hb), h.dis⟩
theorem RP.same {H H' : AH} {v : Value} {l : List T3} (h : RP H v l) (hn : H.n ≤ H'.n) (hv : ∀ b, inB v b → H'.get b = H.get b) (hp : ∀ p ∈ l, ∀ b, inB p.2.2 b → H'.get b = H.get b) : RP H' v l := ⟨Sl.same h.1 hn hv, fun p h' => Sl.same (h.2 p h') hn (hp p h')⟩
theorem scan_l0 (n0 : Nat) (vp : Value) (N : Int) (E : Nat) (hE0 : E < n0) (hvp : ∀ b, inB vp b → b < n0 ∧ b ≠ E) (rest : List SD) : ∀ (pre lr : List T3) (vo : Value) (lo : List SD) (H : AH) (i : Int) (opn : Bool) (a b c d : Value) (Q : XExit → Fr → AH → Prop), RP H vp (pre ++ lr) → lr.map strip = rest.flatMap ptS → (∀ s ∈ rest, SdOk s) → (∀ p ∈ pre ++ lr, ∀ b, inB p.2.2 b → b < n0 ∧ b ≠ E) →
    OutD n0 H vo lo → (∀ t ∈ lo, ∀ b, inB t.w b → n0 ≤ b) → H.get E = some ⟨[a, b, c, d], 1, false, false⟩ → n0 ≤ H.n → i = (pre.length : Int) → N = ((pre ++ lr).length : Int) → N ≤ 2000 → lo.length + rest.length ≤ 100 →
    (∀ H' vo' lo' opn', OutD n0 H' vo' lo' → (∀ t ∈ lo', ∀ b, inB t.w b → n0 ≤ b) → lo'.map told = lo.map told ++ rest.map told → H.n ≤ H'.n → (∀ d, d < n0 → d ≠ E → H'.get d = H.get d) → Q (.exit 0) [(8, vo'), (9, .bool opn'), (10, .pointer (some ⟨E, 0, none⟩)), (25, vp), (26, .int .i64 N), (27, .int .i64 N), (28, .bool false)] H') →
    Run Try.prog tab (.loop xsect_Scan_l0) [(8, vo), (9, .bool opn), (10, .pointer (some ⟨E, 0, none⟩)), (25, vp), (26, .int .i64 N), (27, .int .i64 i)] H Q := by
  induction rest with
  | nil =>
    intro pre lr vo lo H i opn a b c d Q hr hm hok hp ho hlo hE hn hi hN hN2 hl hq
    have hlr : lr = [] := by simpa using hm
    subst hlr
    rw [run_loop]
    generalize hL : XCode.loop xsect_Scan_l0 = L
    have hiN : i = N := by simp at hN; omega
    subst hiN
    have hf : ¬ i < i := by omega
    simp only [xsect_Scan_l0, ofArgs, run_seq, run_block, run_ops, run_skip, run_exit, run_ret, thenQ_normal, thenQ_exit, thenQ_ret, blockQ_normal, blockQ_exit, blockQ_ret, retQ_ret, retQ_normal, ops_nil, ops_none, got_some, ops_wT, ops_wTn, ops_wF, ops_wFn, ops_wU, dops_wT, dops_wTn, dops_wF, dops_wFn, dops_wU, run_condT, run_condF, alt2_int, altB_bool, altI_int, altBB_bool, v_min, v_max, v_not, v_neg, optEv_none, optEv_some, isSome'_none, isSome'_some, pExt0, pExt1, pExt2, Bool.false_and, Bool.true_and, Bool.not_true, Bool.not_false, cond_true, cond_false, dops_nil, dops_none, xval_call, v_mov, v_bin, v_len, v_ext, v_idxA, v_ld, v_st, v_app, v_appN, v_cvs, v_bs1, pBs1, v_slc, v_conv, v_fld, v_fldA, v_new, v_box, v_mks, v_copy, v_isnil, v_nilck, v_pick, ev, evs_nil, evs_cons, fr_get_cons, fr_put_nil, fr_put_cons, fr_put_some, fr_put_none, fr_keep_nil, fr_keep_cons, fr_has_nil, fr_has_cons, Option.bind_some, Option.map_some, xbin, ibin, xresult_eq, xress_nil, xress_tmp, resV, ex_some, if_true, if_false, ite_true, ite_false, reduceIte, reduceCtorEq, Nat.reduceEqDiff, Nat.reduceLT, Nat.reduceLeDiff, Int.reduceLT, Int.reduceLE, Nat.zero_add, Nat.reduceAdd, Bool.false_eq_true, decide_eq_true_eq, decide_eq_false_iff_not, true_implies, false_implies, and_true, true_and, hf, decide_false]
    exact hq H vo lo opn ho hlo (by simp) (Nat.le_refl _) (fun _ _ _ => rfl)
  | cons s rest ih =>
    intro pre lr vo lo H i opn a b c d Q hr hm hok hp ho hlo hE hn hi hN hN2 hl hq
    have hm2 : lr.map strip = (true, hdS s ++ gp) :: (true, bdS s ++ gp) :: rest.flatMap ptS := by rw [hm, List.flatMap_cons]; rfl
    cases lr with
    | nil => cases hm2
    | cons p1 lr =>
    cases lr with
    | nil => simp at hm2
    | cons p2 lr =>
    obtain ⟨m1, b1, w1⟩ := p1
    obtain ⟨m2, b2, w2⟩ := p2
    simp only [List.map_cons, List.cons.injEq, strip, Prod.mk.injEq] at hm2
    obtain ⟨⟨rfl, rfl⟩, ⟨rfl, rfl⟩, hm3⟩ := hm2
    simp only [List.length_cons] at hl
    have hsk := hok s (by simp)
    have hNl : N = (pre.length : Int) + 2 + (lr.length : Int) := by rw [hN]; simp; omega
    refine scan_head vp N s hsk w1 vo E pre _ H i opn a b c d Q hr hi (by omega) (by omega) hE (by omega) ?_
    intro H1 n1 g1 hE1
    have ho1 : OutD n0 H1 vo lo := ho.same n1 hlo fun b hb hb2 => g1 b hb2 (by omega)
    have hr1 : RP H1 vp ((pre ++ [(true, hdS s ++ gp, w1)]) ++ (true, bdS s ++ gp, w2) :: lr) := by
      rw [← List.append_cons]
      exact hr.same n1 (fun b hb => g1 b (by have := (hvp b hb).1; omega) (hvp b hb).2) (fun p hp' b hb => g1 b (by have := (hp p hp' b hb).1; omega) (hp p hp' b hb).2)
    refine scan_body n0 vp N s hsk w2 vo lo E (pre ++ [(true, hdS s ++ gp, w1)]) lr H1 (i + 1) Q hr1 (by simp; omega) (by omega) (by omega) hE1 hE0 ho1 (by omega) (by omega) hlo ?_
    intro H2 vo2 w' o2 hw' n2 g2 hE2
    have hr2 : RP H2 vp ((pre ++ [(true, hdS s ++ gp, w1)] ++ [(true, bdS s ++ gp, w2)]) ++ lr) := by
      rw [← List.append_cons]
      exact hr1.same n2 (fun b hb => g2 b (hvp b hb).1 (hvp b hb).2) (fun p hp' b hb => by
        have := hp p (by rw [List.append_cons]; exact hp') b hb
        exact g2 b this.1 this.2)
    refine ih (pre ++ [(true, hdS s ++ gp, w1)] ++ [(true, bdS s ++ gp, w2)]) lr vo2 (lo ++ [{ s with w := w' }]) H2 (i + 1 + 1) false _ _ _ _ Q hr2 hm3 (fun y hy => hok y (by simp [hy])) (fun p hp' b hb => hp p (by simp at hp' ⊢; exact hp') b hb) o2 (fun t ht b hb => ?_) hE2 (by omega) (by simp; omega) (by simp; omega) hN2 (by simp; omega) ?_
    · rcases List.mem_append.1 ht with h | h
      · exact hlo t h b hb
      · simp only [List.mem_singleton] at h
        subst h
        exact hw' b hb
    · intro H3 vo3 lo3 opn3 o3 hlo3 hm3 n3 g3
      refine hq H3 vo3 lo3 opn3 o3 hlo3 ?_ (by omega) (fun d hd hde => (g3 d hd hde).trans ((g2 d hd hde).trans (g1 d (by omega) hde)))
      rw [hm3]
      simp [told]
theorem scan_first (vp : Value) (N : Int) (w : Value) (bs : List Int) (ptr : Value) (rest : List T3) (H : AH) (Q : XExit → Fr → AH → Prop) (hr : RP H vp ((false, bs, w) :: rest)) (hlt : 0 < N)
    (hq : ∀ H', HExt H H' → Run Try.prog tab (.loop xsect_Scan_l0) [(8, .slice none 0 0), (9, .bool false), (10, ptr), (25, vp), (26, .int .i64 N), (27, .int .i64 1)] H' Q) :
    Run Try.prog tab (.loop xsect_Scan_l0) [(8, .slice none 0 0), (9, .bool false), (10, ptr), (25, vp), (26, .int .i64 N), (27, .int .i64 0)] H Q := by
  rw [run_loop]
  generalize hL : XCode.loop xsect_Scan_l0 = L
  rw [hL] at hq
  have hr' : RP H vp ([] ++ (false, bs, w) :: rest) := hr
  have e1 := rp_idx hr' .i64 0 rfl
  have e2 := rp_ld hr'
  have hb := hr.2 (false, bs, w) (by simp)
  obtain ⟨o1, o2⟩ := slice_one hb
  have st := b2_st H false w o1
  have hx := b2_ext H false w
  have g2 := b2_get H false w
  have e4 := bx2_0 g2
  have e5 := bx2_1 g2
  have w3 : IntKind.i64.wrap (0 + 1) = 1 := rfl
  simp only [xsect_Scan_l0, ofArgs, run_seq, run_block, run_ops, run_skip, run_exit, run_ret, thenQ_normal, thenQ_exit, thenQ_ret, blockQ_normal, blockQ_exit, blockQ_ret, retQ_ret, retQ_normal, ops_nil, ops_none, got_some, ops_wT, ops_wTn, ops_wF, ops_wFn, ops_wU, dops_wT, dops_wTn, dops_wF, dops_wFn, dops_wU, run_condT, run_condF, alt2_int, altB_bool, altI_int, altBB_bool, v_min, v_max, v_not, v_neg, optEv_none, optEv_some, isSome'_none, isSome'_some, pExt0, pExt1, pExt2, Bool.false_and, Bool.true_and, Bool.not_true, Bool.not_false, cond_true, cond_false, dops_nil, dops_none, xval_call, v_mov, v_bin, v_len, v_ext, v_idxA, v_ld, v_st, v_app, v_appN, v_cvs, v_bs1, pBs1, v_slc, v_conv, v_fld, v_fldA, v_new, v_box, v_mks, v_copy, v_isnil, v_nilck, v_pick, ev, evs_nil, evs_cons, fr_get_cons, fr_put_nil, fr_put_cons, fr_put_some, fr_put_none, fr_keep_nil, fr_keep_cons, fr_has_nil, fr_has_cons, Option.bind_some, Option.map_some, xbin, ibin, xresult_eq, xress_nil, xress_tmp, resV, ex_some, if_true, if_false, ite_true, ite_false, reduceIte, reduceCtorEq, Nat.reduceEqDiff, Nat.reduceLT, Nat.reduceLeDiff, Int.reduceLT, Int.reduceLE, Nat.zero_add, Nat.reduceAdd, Bool.false_eq_true, decide_eq_true_eq, decide_eq_false_iff_not, true_implies, false_implies, and_true, true_and, hlt, decide_true, e1, e2, st, fldA0, fldA1, e4, e5, w3]
  exact hq _ hx
set_option maxHeartbeats 2000000 in
theorem scan_ok (l : List SD) (hok : ∀ s ∈ l, SdOk s) (hl : l.length ≤ 12) (vt : Value) (cell : Int) (H : AH) (Q : Value → AH → Prop) (hs : Ints H vt (pul cell (gaps (fullI (itemsL (fmtP l)))).1)) (hc : 2 ≤ cell) (hc2 : cell ≤ 1000)
    (hq : ∀ v l' H', OutD H.n H' v l' → (∀ t ∈ l', ∀ b, inB t.w b → H.n ≤ b) → l'.map told = l.map told → HExt H H' → Q (.tuple [v, .int .i64 0].toArray) H') : Got (xc Try.prog tab 44 [vt, .int .i64 cell] H) Q := by
  refine got_call (res := [.tmp 4, .tmp 5]) rfl ?_
  have can := fmt_canon l hok
  have hsz := fmt_sz l hok
  have hpl := fmtP_len l
  have iok := items_ok _ can.1
  have gb := fullI_gb _ iok
  have glen := (gaps_len (fullI (itemsL (fmtP l)))).1
  rw [fullI_len] at glen
  have hil : (itemsL (fmtP l)).length = szP (fmtP l) := rfl
  generalize hT : ((.seq (.seq (.ops [⟨some 22, .mov (.tmp 7), none⟩, ⟨some 23, .bin .neq (.tmp 22) (.const (.int .i64 0)), none⟩] [6, 7, 23]) (.cond (.tmp 23) (.seq (.ops [⟨some 24, .mov (.tmp 7), none⟩, ⟨some 4, .mov (.const (.slice none 0 0)), none⟩, ⟨some 5, .mov (.tmp 24), none⟩] [4, 5]) .ret) .skip)) (.seq (.ops [⟨some 8, .mov (.const (.slice none 0 0)), none⟩] [6, 8]) (.seq (.ops [⟨some 9, .mov (.const (.bool false)), none⟩] [6, 8, 9]) (.seq (.ops [⟨some 10, .new 87 1 [.int .i64 0, .int .i64 0, .slice none 0 0, .bool false], none⟩] [6, 8, 9, 10]) (.seq (.seq (.ops [⟨some 25, .mov (.tmp 6), none⟩, ⟨some 26, .len (.tmp 25), none⟩, ⟨some 27, .mov (.const (.int .i64 0)), none⟩] [8, 9, 10, 25, 26, 27]) (.block 0 (.loop xsect_Scan_l0))) (.seq (.seq (.ops [⟨some 99, .mov (.tmp 8), none⟩, ⟨some 100, .len (.tmp 99), none⟩, ⟨some 101, .bin .gtr (.tmp 100) (.const (.int .i64 12)), none⟩] [8, 101]) (.cond (.tmp 101) (.seq (.ops [⟨some 4, .mov (.const (.slice none 0 0)), none⟩, ⟨some 5, .mov (.const (.int .i64 2)), none⟩] [4, 5]) .ret) .skip)) (.seq (.ops [⟨some 102, .mov (.tmp 8), none⟩, ⟨some 4, .mov (.tmp 102), none⟩, ⟨some 5, .mov (.const (.int .i64 0)), none⟩] [4, 5]) .ret))))))) : XCode) = T
  simp only [ofArgs, run_seq, run_block, run_ops, run_skip, run_exit, run_ret, thenQ_normal, thenQ_exit, thenQ_ret, blockQ_normal, blockQ_exit, blockQ_ret, retQ_ret, retQ_normal, ops_nil, ops_none, got_some, ops_wT, ops_wTn, ops_wF, ops_wFn, ops_wU, dops_wT, dops_wTn, dops_wF, dops_wFn, dops_wU, run_condT, run_condF, alt2_int, altB_bool, altI_int, altBB_bool, v_min, v_max, v_not, v_neg, optEv_none, optEv_some, isSome'_none, isSome'_some, pExt0, pExt1, pExt2, Bool.false_and, Bool.true_and, Bool.not_true, Bool.not_false, cond_true, cond_false, dops_nil, dops_none, xval_call, v_mov, v_bin, v_len, v_ext, v_idxA, v_ld, v_st, v_app, v_appN, v_cvs, v_bs1, pBs1, v_slc, v_conv, v_fld, v_fldA, v_new, v_box, v_mks, v_copy, v_isnil, v_nilck, v_pick, ev, evs_nil, evs_cons, fr_get_cons, fr_put_nil, fr_put_cons, fr_put_some, fr_put_none, fr_keep_nil, fr_keep_cons, fr_has_nil, fr_has_cons, Option.bind_some, Option.map_some, xbin, ibin, xresult_eq, xress_nil, xress_tmp, resV, ex_some, if_true, if_false, ite_true, ite_false, reduceIte, reduceCtorEq, Nat.reduceEqDiff, Nat.reduceLT, Nat.reduceLeDiff, Int.reduceLT, Int.reduceLE, Nat.zero_add, Nat.reduceAdd, Bool.false_eq_true, decide_eq_true_eq, decide_eq_false_iff_not, true_implies, false_implies, and_true, true_and]
  refine readPs_ok (fmtP l) _ can cell vt H _ hs (pul_ok cell hc hc2 _ (fun g hg => by have := gb.1 g hg; omega)) (pul_cells cell hc hc2 _ (fun g hg => by have := gb.1 g hg; omega)) (by omega) (by omega) hc hc2 ?_
  intro vp lp H1 o1 hm x1
  have hll : lp.length = 1 + 2 * l.length := by have := congrArg List.length hm; rw [List.length_map, fmtP_len] at this; exact this
  cases lp with
  | nil => simp only [List.length_nil] at hll; omega
  | cons p lp =>
  obtain ⟨m, bs, w⟩ := p
  have hm2 : strip (m, bs, w) = (false, gp) ∧ lp.map strip = l.flatMap ptS := by
    simp only [List.map_cons, fmtP, List.cons.injEq] at hm
    exact hm
  simp only [strip, Prod.mk.injEq] at hm2
  obtain ⟨⟨rfl, rfl⟩, hm3⟩ := hm2
  have x2 := hext_push H1 ⟨[.int .i64 0, .int .i64 0, .slice none 0 0, .bool false], 1, false, false⟩
  have n2 : (H1.push ⟨[.int .i64 0, .int .i64 0, .slice none 0 0, .bool false], 1, false, false⟩).n = H1.n + 1 := rfl
  have hE : (H1.push ⟨[.int .i64 0, .int .i64 0, .slice none 0 0, .bool false], 1, false, false⟩).get H1.n = some ⟨[.int .i64 0, .int .i64 0, .slice none 0 0, .bool false], 1, false, false⟩ := by rw [AH.get_push, if_pos rfl]
  have hr2 := o1.rp.ext x2
  have e0 := pLen_ok hr2.1
  subst hT
  generalize hT : ((.seq (.seq (.ops [⟨some 99, .mov (.tmp 8), none⟩, ⟨some 100, .len (.tmp 99), none⟩, ⟨some 101, .bin .gtr (.tmp 100) (.const (.int .i64 12)), none⟩] [8, 101]) (.cond (.tmp 101) (.seq (.ops [⟨some 4, .mov (.const (.slice none 0 0)), none⟩, ⟨some 5, .mov (.const (.int .i64 2)), none⟩] [4, 5]) .ret) .skip)) (.seq (.ops [⟨some 102, .mov (.tmp 8), none⟩, ⟨some 4, .mov (.tmp 102), none⟩, ⟨some 5, .mov (.const (.int .i64 0)), none⟩] [4, 5]) .ret)) : XCode) = T
  simp only [ofArgs, run_seq, run_block, run_ops, run_skip, run_exit, run_ret, thenQ_normal, thenQ_exit, thenQ_ret, blockQ_normal, blockQ_exit, blockQ_ret, retQ_ret, retQ_normal, ops_nil, ops_none, got_some, ops_wT, ops_wTn, ops_wF, ops_wFn, ops_wU, dops_wT, dops_wTn, dops_wF, dops_wFn, dops_wU, run_condT, run_condF, alt2_int, altB_bool, altI_int, altBB_bool, v_min, v_max, v_not, v_neg, optEv_none, optEv_some, isSome'_none, isSome'_some, pExt0, pExt1, pExt2, Bool.false_and, Bool.true_and, Bool.not_true, Bool.not_false, cond_true, cond_false, dops_nil, dops_none, xval_call, v_mov, v_bin, v_len, v_ext, v_idxA, v_ld, v_st, v_app, v_appN, v_cvs, v_bs1, pBs1, v_slc, v_conv, v_fld, v_fldA, v_new, v_box, v_mks, v_copy, v_isnil, v_nilck, v_pick, ev, evs_nil, evs_cons, fr_get_cons, fr_put_nil, fr_put_cons, fr_put_some, fr_put_none, fr_keep_nil, fr_keep_cons, fr_has_nil, fr_has_cons, Option.bind_some, Option.map_some, xbin, ibin, xresult_eq, xress_nil, xress_tmp, resV, ex_some, if_true, if_false, ite_true, ite_false, reduceIte, reduceCtorEq, Nat.reduceEqDiff, Nat.reduceLT, Nat.reduceLeDiff, Int.reduceLT, Int.reduceLE, Nat.zero_add, Nat.reduceAdd, Bool.false_eq_true, decide_eq_true_eq, decide_eq_false_iff_not, true_implies, false_implies, and_true, true_and, bne_self_eq_false, e0]
  generalize H1.push ⟨[.int .i64 0, .int .i64 0, .slice none 0 0, .bool false], 1, false, false⟩ = H2 at *
  refine scan_first vp _ w gp _ lp H2 _ hr2 (by simp) ?_
  intro H3 x3
  have n3 := x3.1
  have hr3 := hr2.ext x3
  have hvl : ∀ b, inB vp b → b < H1.n := fun b hb => o1.rp.1.lt hb
  have hpl2 : ∀ p ∈ (false, gp, w) :: lp, ∀ b, inB p.2.2 b → b < H1.n := fun p hp b hb => (o1.rp.2 p hp).lt hb
  refine scan_l0 (H1.n + 1) vp _ H1.n (by omega) (fun b hb => by have := hvl b hb; omega) l [(false, gp, w)] lp (.slice none 0 0) [] H3 1 false _ _ _ _ _ hr3 hm3 hok (fun p hp b hb => by have := hpl2 p hp b hb; omega) (OutD.nil _ _) (fun t ht => by simp at ht) ((x3.2 H1.n (by omega)).trans hE) (by omega) (by simp) rfl (by simp at hll ⊢; omega) (by simp; omega) ?_
  intro H4 vo lo opn o4 hlo4 hmo n4 g4
  simp only [List.map_nil, List.nil_append] at hmo
  have hlo : lo.length = l.length := by have := congrArg List.length hmo; simpa using this
  have c1 : ¬ (lo.length : Int) > 12 := by omega
  subst hT
  have e6 : pLen vo H4 = some (.int .i64 (lo.length : Int), H4) := pLen_ok o4.own.1
  simp only [ofArgs, run_seq, run_block, run_ops, run_skip, run_exit, run_ret, thenQ_normal, thenQ_exit, thenQ_ret, blockQ_normal, blockQ_exit, blockQ_ret, retQ_ret, retQ_normal, ops_nil, ops_none, got_some, ops_wT, ops_wTn, ops_wF, ops_wFn, ops_wU, dops_wT, dops_wTn, dops_wF, dops_wFn, dops_wU, run_condT, run_condF, alt2_int, altB_bool, altI_int, altBB_bool, v_min, v_max, v_not, v_neg, optEv_none, optEv_some, isSome'_none, isSome'_some, pExt0, pExt1, pExt2, Bool.false_and, Bool.true_and, Bool.not_true, Bool.not_false, cond_true, cond_false, dops_nil, dops_none, xval_call, v_mov, v_bin, v_len, v_ext, v_idxA, v_ld, v_st, v_app, v_appN, v_cvs, v_bs1, pBs1, v_slc, v_conv, v_fld, v_fldA, v_new, v_box, v_mks, v_copy, v_isnil, v_nilck, v_pick, ev, evs_nil, evs_cons, fr_get_cons, fr_put_nil, fr_put_cons, fr_put_some, fr_put_none, fr_keep_nil, fr_keep_cons, fr_has_nil, fr_has_cons, Option.bind_some, Option.map_some, xbin, ibin, xresult_eq, xress_nil, xress_tmp, resV, ex_some, if_true, if_false, ite_true, ite_false, reduceIte, reduceCtorEq, Nat.reduceEqDiff, Nat.reduceLT, Nat.reduceLeDiff, Int.reduceLT, Int.reduceLE, Nat.zero_add, Nat.reduceAdd, Bool.false_eq_true, decide_eq_true_eq, decide_eq_false_iff_not, true_implies, false_implies, and_true, true_and, e6, c1, decide_false]
  have xn := x1.1
  exact hq vo lo H4 (o4.le (by omega)) (fun t ht b hb => by have := hlo4 t ht b hb; omega) hmo ⟨by omega, fun d hd => (g4 d (by omega) (by omega)).trans ((x3.2 d (by omega)).trans ((x2.2 d (by omega)).trans (x1.2 d hd)))⟩
end Go.Proofs.Ytejedmocjdcdgaa.D

set_option linter.unusedSimpArgs false
set_option linter.unusedVariables false
namespace Go.Proofs.Ytejedmocjdcdgaa.D
open Go Go.Det

/-! ### the law's sectors -/
def altSD (o1 o2 o3 o4 : Option Value) (f : Int → Int → Bool → Option Addr → Nat → Nat → Option (Value × AH)) (z : Option (Value × AH)) : Option (Value × AH) :=
  match o1, o2, o3, o4 with
  | some (.int .i64 a), some (.int .i64 b), some (.bool t), some (.slice p l c) => f a b t p l c
  | _, _, _, _ => z
theorem altSD_val (a b : Int) (t : Bool) (p : Option Addr) (l c : Nat) (f : Int → Int → Bool → Option Addr → Nat → Nat → Option (Value × AH)) (z : Option (Value × AH)) : altSD (some (.int .i64 a)) (some (.int .i64 b)) (some (.bool t)) (some (.slice p l c)) f z = f a b t p l c := rfl
theorem v_b4sd {P : Program} {T : XTab} (fr : Fr) (H : AH) (dd : Option Nat) (x y t u : Operand) (z0 z1 z2 z3 : Value) : xval P (xc P T) ⟨dd, .build [z0, z1, z2, z3] [(0, 1, x), (1, 1, y), (3, 1, t), (2, 1, u)], none⟩ fr H =
    altSD (ev fr x) (ev fr y) (ev fr t) (ev fr u) (fun a b t p l c => some (.agg #[.int .i64 a, .int .i64 b, .slice p l c, .bool t], H)) (xop P fr H (.build [z0, z1, z2, z3] [(0, 1, x), (1, 1, y), (3, 1, t), (2, 1, u)])) := by
  rw [xval_op dd _ fr H rfl]
  unfold altSD
  split
  · rename_i a b t p l c h1 h2 h3 h4
    rw [e_build]
    simp only [xfill, h1, h2, h3, h4]
    rfl
  · rfl
end Go.Proofs.Ytejedmocjdcdgaa.D

set_option linter.unusedSimpArgs false
set_option linter.unusedVariables false
namespace Go.Proofs.Ytejedmocjdcdgaa.D
open Go Go.Det

/-! ### sectors are compared -/
/-- as many lengths as changes -/
theorem gaps_count (q : List Bool) : (gaps q).1.length = q.count true := by
  refine snoc_ind (P := fun q => (gaps q).1.length = q.count true) (by simp [gaps]) (fun q b ih => ?_) q
  rw [gaps_snoc, List.count_append]
  cases b <;> simp [plc, ih]
theorem fmt_many (l : List SD) : 9 ≤ (gaps (fullI (itemsL (fmtP l)))).1.length := by
  rw [gaps_count]
  have e : itemsL (fmtP l) = byI gp ++ itemsL (l.flatMap ptS) := by simp [itemsL, fmtP, items]
  unfold fullI
  rw [e, isym_app, List.append_assoc, List.count_append]
  have : 9 ≤ (isym (byI gp) true).count true := by decide
  omega

end Go.Proofs.Ytejedmocjdcdgaa.D

set_option linter.unusedSimpArgs false
set_option linter.unusedVariables false
namespace Go.Proofs.Ytejedmocjdcdgaa.D
open Go Go.Det

/-- a slice of slices of bytes: the outer one is ours (from n0 on), the inner ones lie beside it and beside what F names -/
def OwnS (n0 : Nat) (F : Nat → Prop) (H : AH) (v : Value) (L : List (List Int)) : Prop :=
  ∃ vs : List Value, Own n0 1 H v L.length vs ∧ ∀ (i : Nat) (x : Value), vs[i]? = some x → (∃ l, L[i]? = some l ∧ Byts H x l) ∧ ∀ b, inB x b → ¬ inB v b ∧ ¬ F b
/-- to be read only -/
def Secs (H : AH) (v : Value) (L : List (List Int)) : Prop :=
  ∃ vs : List Value, Sl H 1 v L.length vs ∧ ∀ (i : Nat) (x : Value), vs[i]? = some x → ∃ l, L[i]? = some l ∧ Byts H x l

theorem Secs.ext {H H' : AH} {v : Value} {L : List (List Int)} (hx : HExt H H') (h : Secs H v L) : Secs H' v L := by
  obtain ⟨vs, h1, h2⟩ := h
  refine ⟨vs, Sl.ext hx h1, fun i x hi => ?_⟩
  obtain ⟨l, h3, h4⟩ := h2 i x hi
  exact ⟨l, h3, Sl.ext hx h4⟩
theorem OwnS.secs {n0 : Nat} {F : Nat → Prop} {H : AH} {v : Value} {L : List (List Int)} (h : OwnS n0 F H v L) : Secs H v L := by
  obtain ⟨vs, h1, h2⟩ := h
  exact ⟨vs, h1.1, fun i x hi => (h2 i x hi).1⟩
theorem OwnS.mono {n0 : Nat} {F : Nat → Prop} {H H' : AH} {v : Value} {L : List (List Int)} (h : OwnS n0 F H v L) (hF : ∀ b, F b → b < n0) (hn : H.n ≤ H'.n) (hg : ∀ b, b < H.n → ¬ F b → H'.get b = H.get b) : OwnS n0 F H' v L := by
  obtain ⟨vs, h1, h2⟩ := h
  refine ⟨vs, Own.same h1 hn fun b hb => hg b (h1.1.lt hb) fun hf => ?_, fun i x hi => ?_⟩
  · obtain ⟨o, l, c, e⟩ := hb
    have := (h1.2 b o l c e).1
    have := hF b hf
    omega
  · obtain ⟨⟨l, h3, h4⟩, h5⟩ := h2 i x hi
    exact ⟨⟨l, h3, Sl.same h4 hn fun b hb => hg b (Sl.lt h4 hb) (h5 b hb).2⟩, h5⟩
theorem OwnS.ext {n0 : Nat} {F : Nat → Prop} {H H' : AH} {v : Value} {L : List (List Int)} (h : OwnS n0 F H v L) (hF : ∀ b, F b → b < n0) (hx : HExt H H') : OwnS n0 F H' v L :=
  h.mono hF hx.1 fun b hb _ => hx.2 b hb
theorem OwnS.nil (n0 : Nat) (F : Nat → Prop) (H : AH) : OwnS n0 F H (.slice none 0 0) [] := ⟨[], Own.nil _ _ _, fun i x hi => by simp at hi⟩
theorem OwnS.len {n0 : Nat} {F : Nat → Prop} {H : AH} {v : Value} {L : List (List Int)} (h : OwnS n0 F H v L) : pLen v H = some (.int .i64 (L.length : Int), H) := by
  obtain ⟨vs, h1, _⟩ := h
  exact pLen_ok h1.1
theorem Secs.len {H : AH} {v : Value} {L : List (List Int)} (h : Secs H v L) : pLen v H = some (.int .i64 (L.length : Int), H) := by
  obtain ⟨vs, h1, _⟩ := h
  exact pLen_ok h1
/-- one sector is read -/
theorem Secs.at {H : AH} {v : Value} {L : List (List Int)} (h : Secs H v L) (i : Int) (k : Nat) (hi : i = (k : Int)) (hk : k < L.length) :
    ∃ x, pIdx 1 v (.int .i64 i) H = some (ptrAt v k, H) ∧ pLd none (ptrAt v k) H = some (x, H) ∧ Byts H x (L[k]'hk) := by
  obtain ⟨vs, h1, h2⟩ := h
  have hl := h1.len
  have hkv : k < vs.length := by omega
  obtain ⟨l, h3, h4⟩ := h2 k _ (List.getElem?_eq_getElem hkv)
  rw [List.getElem?_eq_getElem hk] at h3
  cases h3
  exact ⟨vs[k], pIdx_one h1 .i64 i k hi hk, pLd_one h1 k _ (List.getElem?_eq_getElem hkv), h4⟩
theorem Secs.sl {H : AH} {v : Value} {L : List (List Int)} (h : Secs H v L) : one v = true ∧ vcells v = [v] ∧ veq v v = true := by
  obtain ⟨vs, h1, _⟩ := h
  exact ⟨(sl_slice h1).1, (sl_slice h1).2, h1.veq⟩
/-- one sector more -/
theorem appS {n0 : Nat} {F : Nat → Prop} {H : AH} {v x : Value} {L : List (List Int)} {l : List Int} {Q : Value → AH → Prop} (h : OwnS n0 F H v L) (hn : n0 ≤ H.n) (hx : Byts H x l) (hd : ∀ b, inB x b → ¬ inB v b ∧ ¬ F b) (hle : L.length + 1 ≤ 1000)
    (hq : ∀ v' H', OwnS n0 F H' v' (L ++ [l]) → Stp v H v' H' → Q v' H') : Got (xapp (H.push ⟨[x], 1, false, false⟩) 1 24 v (.slice (some ⟨H.n, 0, none⟩) 1 1)) Q := by
  obtain ⟨vs, h1, h2⟩ := h
  have hvl := h1.1.len
  obtain ⟨o1, o2⟩ := sl_slice hx
  refine xapp_own (Own.ext (hext_push H _) h1) (by simp; omega) (Sl.pushed H [x] 1 1 false false rfl) (by simp [o1]) (Nat.le_refl _) (by omega) (by omega) ?_
  intro v' H' k1 k2
  have st : Stp v H v' H' := ⟨by have := k2.n; simp at this; omega, fun b hb hnb => by rw [k2.get b (by simp; omega) hnb, AH.get_push, if_neg (by omega)], fun b h => by
    rcases k2.new b h with h | h
    · exact .inl h
    · exact .inr (by simp at h; omega)⟩
  refine hq v' H' ⟨vs ++ [x], by simpa using k1, fun i y hi => ?_⟩ st
  have key : ∀ y l', Byts H y l' → (∀ b, inB y b → ¬ inB v b ∧ ¬ F b) → Byts H' y l' ∧ ∀ b, inB y b → ¬ inB v' b ∧ ¬ F b := by
    intro y l' hy hdy
    refine ⟨Sl.same hy st.n fun b hb => st.get b (Sl.lt hy hb) (hdy b hb).1, fun b hb => ⟨fun hv' => ?_, (hdy b hb).2⟩⟩
    rcases st.new b hv' with h | h
    · exact (hdy b hb).1 h
    · have := Sl.lt hy hb; omega
  rcases Nat.lt_or_ge i vs.length with hlt | hge
  · rw [List.getElem?_append_left hlt] at hi
    obtain ⟨⟨l', g1, g2⟩, g3⟩ := h2 i y hi
    obtain ⟨g4, g5⟩ := key y l' g2 g3
    exact ⟨⟨l', by rw [List.getElem?_append_left (by omega)]; exact g1, g4⟩, g5⟩
  · rw [List.getElem?_append_right hge] at hi
    have hi0 : i - vs.length = 0 := by
      rcases Nat.eq_zero_or_pos (i - vs.length) with h0 | h0
      · exact h0
      · rw [List.getElem?_eq_none (by simp; omega)] at hi; cases hi
    rw [hi0] at hi
    simp at hi; subst hi
    obtain ⟨g4, g5⟩ := key x l hx hd
    refine ⟨⟨l, ?_, g4⟩, g5⟩
    rw [List.getElem?_append_right (by omega), show i - L.length = 0 by omega]
    rfl
/-- another sector at a place -/
theorem stS {n0 : Nat} {F : Nat → Prop} {H : AH} {v x : Value} {L : List (List Int)} {l : List Int} {Q : Value → AH → Prop} (h : OwnS n0 F H v L) (hx : Byts H x l) (hd : ∀ b, inB x b → ¬ inB v b ∧ ¬ F b) {k : Nat} (hk : k < L.length)
    (hq : ∀ H', OwnS n0 F H' v (L.set k l) → Stp v H v H' → Q undef H') : Got (pSt 1 (ptrAt v k) x H) Q := by
  obtain ⟨vs, h1, h2⟩ := h
  have hvl := h1.1.len
  obtain ⟨o1, o2⟩ := sl_slice hx
  refine pSt_own h1 (by omega) o1 o2 ?_
  intro H' k1 st
  refine hq H' ⟨vs.set k x, by simpa using k1, fun i y hi => ?_⟩ st
  have key : ∀ y l', Byts H y l' → (∀ b, inB y b → ¬ inB v b ∧ ¬ F b) → Byts H' y l' := fun y l' hy hdy => Sl.same hy st.n fun b hb => st.get b (Sl.lt hy hb) (hdy b hb).1
  by_cases hik : k = i
  · subst hik
    rw [List.getElem?_set_self (by omega)] at hi
    cases hi
    exact ⟨⟨l, by rw [List.getElem?_set_self hk], key x l hx hd⟩, hd⟩
  · rw [List.getElem?_set_ne hik] at hi
    obtain ⟨⟨l', g1, g2⟩, g3⟩ := h2 i y hi
    exact ⟨⟨l', by rw [List.getElem?_set_ne hik]; exact g1, key y l' g2 g3⟩, g3⟩

/-! ### image.Check -/
theorem imcheck_l0 (v : Value) (H : AH) (L : List (List Int)) (hs : Secs H v L) (hl : ∀ l ∈ L, l.length = 128) (hL : L.length ≤ 1000) (r : Nat) : ∀ (k : Nat) (i N : Int) (Q : XExit → Fr → AH → Prop), k + r = L.length → i = (k : Int) → N = (L.length : Int) →
    Q (.exit 0) [(33, v), (34, .int .i64 N), (35, .int .i64 N), (36, .bool false)] H → Run Try.prog tab (.loop ximage_Check_l0) [(33, v), (34, .int .i64 N), (35, .int .i64 i)] H Q := by
  induction r with
  | zero =>
    intro k i N Q hk hi hN hq
    rw [run_loop]
    generalize hL : XCode.loop ximage_Check_l0 = LL
    obtain rfl : i = N := by omega
    have hf : ¬ i < i := by omega
    simp only [ximage_Check_l0, ofArgs, run_seq, run_block, run_ops, run_skip, run_exit, run_ret, thenQ_normal, thenQ_exit, thenQ_ret, blockQ_normal, blockQ_exit, blockQ_ret, retQ_ret, retQ_normal, ops_nil, ops_none, got_some, ops_wT, ops_wTn, ops_wF, ops_wFn, ops_wU, dops_wT, dops_wTn, dops_wF, dops_wFn, dops_wU, run_condT, run_condF, alt2_int, altB_bool, altI_int, altBB_bool, v_min, v_max, v_not, v_neg, optEv_none, optEv_some, isSome'_none, isSome'_some, pExt0, pExt1, pExt2, Bool.false_and, Bool.true_and, Bool.not_true, Bool.not_false, cond_true, cond_false, dops_nil, dops_none, xval_call, v_mov, v_bin, v_len, v_ext, v_idxA, v_ld, v_st, v_app, v_appN, v_cvs, v_bs1, pBs1, v_slc, v_conv, v_fld, v_fldA, v_new, v_box, v_mks, v_copy, v_isnil, v_nilck, v_pick, ev, evs_nil, evs_cons, fr_get_cons, fr_put_nil, fr_put_cons, fr_put_some, fr_put_none, fr_keep_nil, fr_keep_cons, fr_has_nil, fr_has_cons, Option.bind_some, Option.map_some, xbin, ibin, xresult_eq, xress_nil, xress_tmp, resV, ex_some, if_true, if_false, ite_true, ite_false, reduceIte, reduceCtorEq, Nat.reduceEqDiff, Nat.reduceLT, Nat.reduceLeDiff, Int.reduceLT, Int.reduceLE, Nat.zero_add, Nat.reduceAdd, Bool.false_eq_true, decide_eq_true_eq, decide_eq_false_iff_not, true_implies, false_implies, and_true, true_and, hf, decide_false]
    exact hq
  | succ r ih =>
    intro k i N Q hk hi hN hq
    have ih' := ih (k + 1) (i + 1) N Q (by omega) (by omega) hN hq
    rw [run_loop]
    generalize hL : XCode.loop ximage_Check_l0 = LL
    rw [hL] at ih'
    have hlt : i < N := by omega
    obtain ⟨x, e1, e2, e3⟩ := hs.at i k hi (by omega)
    have e5 := byts_len' e3
    rw [hl _ (List.getElem_mem (by omega))] at e5
    have c1 : (((128 : Nat) : Int) != 128) = false := rfl
    have e4 := wrI (i + 1) (by omega) (by omega)
    simp only [ximage_Check_l0, ofArgs, run_seq, run_block, run_ops, run_skip, run_exit, run_ret, thenQ_normal, thenQ_exit, thenQ_ret, blockQ_normal, blockQ_exit, blockQ_ret, retQ_ret, retQ_normal, ops_nil, ops_none, got_some, ops_wT, ops_wTn, ops_wF, ops_wFn, ops_wU, dops_wT, dops_wTn, dops_wF, dops_wFn, dops_wU, run_condT, run_condF, alt2_int, altB_bool, altI_int, altBB_bool, v_min, v_max, v_not, v_neg, optEv_none, optEv_some, isSome'_none, isSome'_some, pExt0, pExt1, pExt2, Bool.false_and, Bool.true_and, Bool.not_true, Bool.not_false, cond_true, cond_false, dops_nil, dops_none, xval_call, v_mov, v_bin, v_len, v_ext, v_idxA, v_ld, v_st, v_app, v_appN, v_cvs, v_bs1, pBs1, v_slc, v_conv, v_fld, v_fldA, v_new, v_box, v_mks, v_copy, v_isnil, v_nilck, v_pick, ev, evs_nil, evs_cons, fr_get_cons, fr_put_nil, fr_put_cons, fr_put_some, fr_put_none, fr_keep_nil, fr_keep_cons, fr_has_nil, fr_has_cons, Option.bind_some, Option.map_some, xbin, ibin, xresult_eq, xress_nil, xress_tmp, resV, ex_some, if_true, if_false, ite_true, ite_false, reduceIte, reduceCtorEq, Nat.reduceEqDiff, Nat.reduceLT, Nat.reduceLeDiff, Int.reduceLT, Int.reduceLE, Nat.zero_add, Nat.reduceAdd, Bool.false_eq_true, decide_eq_true_eq, decide_eq_false_iff_not, true_implies, false_implies, and_true, true_and, hlt, decide_true, e1, e2, e5, c1, e4]
    exact ih'

theorem imcheck_ok (T S : Int) (v : Value) (H : AH) (L : List (List Int)) (Q : Value → AH → Prop) (hs : Secs H v L) (hl : ∀ l ∈ L, l.length = 128) (hT : 1 ≤ T) (hT2 : T ≤ 20) (hS : 1 ≤ S) (hS2 : S ≤ 12) (hLL : (L.length : Int) = T * S)
    (hq : ∀ H', HExt H H' → Q (.int .i64 0) H') : Got (xc Try.prog tab 58 [.agg #[.int .i64 T, .int .i64 S, v]] H) Q := by
  refine got_call (res := [.tmp 2]) rfl ?_
  have hb : 0 ≤ T * S ∧ T * S ≤ 240 := by
    have h1 : T * S ≤ 20 * S := Int.mul_le_mul_of_nonneg_right hT2 (by omega)
    have h2 : 1 * S ≤ T * S := Int.mul_le_mul_of_nonneg_right hT (by omega)
    omega
  have ev3 : vcells (.agg #[.int .i64 T, .int .i64 S, v]) = [.int .i64 T, .int .i64 S, v] := rfl
  have hg : (H.push ⟨[.int .i64 T, .int .i64 S, v], 1, false, false⟩).get H.n = some ⟨[.int .i64 T, .int .i64 S, v], 1, false, false⟩ := by rw [AH.get_push, if_pos rfl]
  have hx := hext_push H ⟨[.int .i64 T, .int .i64 S, v], 1, false, false⟩
  have hs' := hs.ext hx
  have e0 := ld3_0 hg
  have e1 := ld3_1 hg
  have e2 := ld3_2 hg
  have e3 := hs'.len
  have w1 := wrI (T * S) (by omega) (by omega)
  have c1 : ¬ T < 1 := by omega
  have c2 : ¬ T > 20 := by omega
  have c3 : ¬ S < 1 := by omega
  have c4 : ¬ S > 12 := by omega
  rw [hLL] at e3
  simp only [ofArgs, run_seq, run_block, run_ops, run_skip, run_exit, run_ret, thenQ_normal, thenQ_exit, thenQ_ret, blockQ_normal, blockQ_exit, blockQ_ret, retQ_ret, retQ_normal, ops_nil, ops_none, got_some, ops_wT, ops_wTn, ops_wF, ops_wFn, ops_wU, dops_wT, dops_wTn, dops_wF, dops_wFn, dops_wU, run_condT, run_condF, alt2_int, altB_bool, altI_int, altBB_bool, v_min, v_max, v_not, v_neg, optEv_none, optEv_some, isSome'_none, isSome'_some, pExt0, pExt1, pExt2, Bool.false_and, Bool.true_and, Bool.not_true, Bool.not_false, cond_true, cond_false, dops_nil, dops_none, xval_call, v_mov, v_bin, v_len, v_ext, v_idxA, v_ld, v_st, v_app, v_appN, v_cvs, v_bs1, pBs1, v_slc, v_conv, v_fld, v_fldA, v_new, v_box, v_mks, v_copy, v_isnil, v_nilck, v_pick, ev, evs_nil, evs_cons, fr_get_cons, fr_put_nil, fr_put_cons, fr_put_some, fr_put_none, fr_keep_nil, fr_keep_cons, fr_has_nil, fr_has_cons, Option.bind_some, Option.map_some, xbin, ibin, xresult_eq, xress_nil, xress_tmp, resV, ex_some, if_true, if_false, ite_true, ite_false, reduceIte, reduceCtorEq, Nat.reduceEqDiff, Nat.reduceLT, Nat.reduceLeDiff, Int.reduceLT, Int.reduceLE, Nat.zero_add, Nat.reduceAdd, Bool.false_eq_true, decide_eq_true_eq, decide_eq_false_iff_not, true_implies, false_implies, and_true, true_and, ev3, pFldA_ptr, e0, e1, e2, e3, w1, c1, c2, c3, c4, decide_false, bne_self_eq_false]
  refine imcheck_l0 v _ L hs' hl (by omega) L.length 0 0 _ _ (by omega) rfl hLL.symm ?_
  simp only [ofArgs, run_seq, run_block, run_ops, run_skip, run_exit, run_ret, thenQ_normal, thenQ_exit, thenQ_ret, blockQ_normal, blockQ_exit, blockQ_ret, retQ_ret, retQ_normal, ops_nil, ops_none, got_some, ops_wT, ops_wTn, ops_wF, ops_wFn, ops_wU, dops_wT, dops_wTn, dops_wF, dops_wFn, dops_wU, run_condT, run_condF, alt2_int, altB_bool, altI_int, altBB_bool, v_min, v_max, v_not, v_neg, optEv_none, optEv_some, isSome'_none, isSome'_some, pExt0, pExt1, pExt2, Bool.false_and, Bool.true_and, Bool.not_true, Bool.not_false, cond_true, cond_false, dops_nil, dops_none, xval_call, v_mov, v_bin, v_len, v_ext, v_idxA, v_ld, v_st, v_app, v_appN, v_cvs, v_bs1, pBs1, v_slc, v_conv, v_fld, v_fldA, v_new, v_box, v_mks, v_copy, v_isnil, v_nilck, v_pick, ev, evs_nil, evs_cons, fr_get_cons, fr_put_nil, fr_put_cons, fr_put_some, fr_put_none, fr_keep_nil, fr_keep_cons, fr_has_nil, fr_has_cons, Option.bind_some, Option.map_some, xbin, ibin, xresult_eq, xress_nil, xress_tmp, resV, ex_some, if_true, if_false, ite_true, ite_false, reduceIte, reduceCtorEq, Nat.reduceEqDiff, Nat.reduceLT, Nat.reduceLeDiff, Int.reduceLT, Int.reduceLE, Nat.zero_add, Nat.reduceAdd, Bool.false_eq_true, decide_eq_true_eq, decide_eq_false_iff_not, true_implies, false_implies, and_true, true_and]
  exact hq _ hx
theorem imcheck_empty (H : AH) (Q : Value → AH → Prop) (hq : ∀ H', HExt H H' → Q (.int .i64 1) H') : Got (xc Try.prog tab 58 [.agg #[.int .i64 0, .int .i64 0, .slice none 0 0]] H) Q := by
  refine got_call (res := [.tmp 2]) rfl ?_
  have ev3 : vcells (.agg #[.int .i64 0, .int .i64 0, .slice none 0 0]) = [.int .i64 0, .int .i64 0, .slice none 0 0] := rfl
  have hg : (H.push ⟨[.int .i64 0, .int .i64 0, .slice none 0 0], 1, false, false⟩).get H.n = some ⟨[.int .i64 0, .int .i64 0, .slice none 0 0], 1, false, false⟩ := by rw [AH.get_push, if_pos rfl]
  have e0 := ld3_0 hg
  simp only [ofArgs, run_seq, run_block, run_ops, run_skip, run_exit, run_ret, thenQ_normal, thenQ_exit, thenQ_ret, blockQ_normal, blockQ_exit, blockQ_ret, retQ_ret, retQ_normal, ops_nil, ops_none, got_some, ops_wT, ops_wTn, ops_wF, ops_wFn, ops_wU, dops_wT, dops_wTn, dops_wF, dops_wFn, dops_wU, run_condT, run_condF, alt2_int, altB_bool, altI_int, altBB_bool, v_min, v_max, v_not, v_neg, optEv_none, optEv_some, isSome'_none, isSome'_some, pExt0, pExt1, pExt2, Bool.false_and, Bool.true_and, Bool.not_true, Bool.not_false, cond_true, cond_false, dops_nil, dops_none, xval_call, v_mov, v_bin, v_len, v_ext, v_idxA, v_ld, v_st, v_app, v_appN, v_cvs, v_bs1, pBs1, v_slc, v_conv, v_fld, v_fldA, v_new, v_box, v_mks, v_copy, v_isnil, v_nilck, v_pick, ev, evs_nil, evs_cons, fr_get_cons, fr_put_nil, fr_put_cons, fr_put_some, fr_put_none, fr_keep_nil, fr_keep_cons, fr_has_nil, fr_has_cons, Option.bind_some, Option.map_some, xbin, ibin, xresult_eq, xress_nil, xress_tmp, resV, ex_some, if_true, if_false, ite_true, ite_false, reduceIte, reduceCtorEq, Nat.reduceEqDiff, Nat.reduceLT, Nat.reduceLeDiff, Int.reduceLT, Int.reduceLE, Nat.zero_add, Nat.reduceAdd, Bool.false_eq_true, decide_eq_true_eq, decide_eq_false_iff_not, true_implies, false_implies, and_true, true_and, ev3, pFldA_ptr, e0, decide_true]
  exact hq _ (hext_push H _)
end Go.Proofs.Ytejedmocjdcdgaa.D

set_option linter.unusedSimpArgs false
set_option linter.unusedVariables false
namespace Go.Proofs.Ytejedmocjdcdgaa.D
open Go Go.Det

/-! ### the law's disk, whose bytes are bytes -/
def S8 (l : List Int) : Prop := l.length = 128 ∧ B8 l
theorem OwnS.lt {n0 : Nat} {F : Nat → Prop} {H : AH} {v : Value} {L : List (List Int)} (h : OwnS n0 F H v L) {b : Nat} (hb : inB v b) : n0 ≤ b ∧ b < H.n := by
  obtain ⟨vs, h1, h2⟩ := h
  refine ⟨?_, h1.1.lt hb⟩
  obtain ⟨o, l, c, e⟩ := hb
  exact (h1.2 b o l c e).1

/-! ### image.place, image.Get -/
theorem Strm.mono {n0 : Nat} {H H' : AH} {B : Nat} {v : Value} {l : List Int} (h : Strm n0 H B v l) (hn : H.n ≤ H'.n) (hg : ∀ b, b < n0 ∨ b = B → H'.get b = H.get b) : Strm n0 H' B v l :=
  ⟨h.nb, by have := h.lt; omega, by rw [hg B (.inr rfl)]; exact h.box, Sl.same h.ints hn fun b hb => hg b (.inl (h.out b hb)), h.out⟩

theorem disk8_l0 (n1 : Nat) (p2 p3 p4 : Value) (x y N j : Int) (vb : Value) (r : Nat) : ∀ (k : Nat) (l : List Int) (H : AH) (i : Int) (Q : XExit → Fr → AH → Prop), k + r = 128 → i = (k : Int) → OwnB n1 H vb l → S8 l → n1 ≤ H.n →
    (∀ H' l', OwnB n1 H' vb l' → S8 l' → Keep n1 H H' → Q (.exit 2) [(2, p2), (3, p3), (4, p4), (5, .int .i64 x), (6, .int .i64 y), (7, vb), (23, .int .i64 N), (24, .int .i64 j), (32, .int .i64 128), (33, .int .i64 128), (34, .bool false)] H') →
    Run Try.prog tab (.loop xbakemake_Disk_l0) [(2, p2), (3, p3), (4, p4), (5, .int .i64 x), (6, .int .i64 y), (7, vb), (23, .int .i64 N), (24, .int .i64 j), (32, .int .i64 128), (33, .int .i64 i)] H Q := by
  induction r with
  | zero =>
    intro k l H i Q hk hi ho hl hn hq
    rw [run_loop]
    generalize hL : XCode.loop xbakemake_Disk_l0 = LL
    obtain rfl : i = 128 := by omega
    simp only [xbakemake_Disk_l0, ofArgs, run_seq, run_block, run_ops, run_skip, run_exit, run_ret, thenQ_normal, thenQ_exit, thenQ_ret, blockQ_normal, blockQ_exit, blockQ_ret, retQ_ret, retQ_normal, ops_nil, ops_none, got_some, ops_wT, ops_wTn, ops_wF, ops_wFn, ops_wU, dops_wT, dops_wTn, dops_wF, dops_wFn, dops_wU, run_condT, run_condF, alt2_int, altB_bool, altI_int, altBB_bool, v_min, v_max, v_not, v_neg, optEv_none, optEv_some, isSome'_none, isSome'_some, pExt0, pExt1, pExt2, Bool.false_and, Bool.true_and, Bool.not_true, Bool.not_false, cond_true, cond_false, dops_nil, dops_none, xval_call, v_mov, v_bin, v_len, v_ext, v_idxA, v_ld, v_st, v_app, v_appN, v_cvs, v_bs1, pBs1, v_slc, v_conv, v_fld, v_fldA, v_new, v_box, v_mks, v_copy, v_isnil, v_nilck, v_pick, ev, evs_nil, evs_cons, fr_get_cons, fr_put_nil, fr_put_cons, fr_put_some, fr_put_none, fr_keep_nil, fr_keep_cons, fr_has_nil, fr_has_cons, Option.bind_some, Option.map_some, xbin, ibin, xresult_eq, xress_nil, xress_tmp, resV, ex_some, if_true, if_false, ite_true, ite_false, reduceIte, reduceCtorEq, Nat.reduceEqDiff, Nat.reduceLT, Nat.reduceLeDiff, Int.reduceLT, Int.reduceLE, Nat.zero_add, Nat.reduceAdd, Bool.false_eq_true, decide_eq_true_eq, decide_eq_false_iff_not, true_implies, false_implies, and_true, true_and, Int.lt_irrefl, decide_false]
    exact hq H l ho hl (.refl _ _)
  | succ r ih =>
    intro k l H i Q hk hi ho hl hn hq
    have ih' := ih (k + 1)
    rw [run_loop]
    generalize hL : XCode.loop xbakemake_Disk_l0 = LL
    rw [hL] at ih'
    have hlt : i < 128 := by omega
    have hl1 := hl.1
    have e1 := byts_idx ho.1 i k hi (by omega)
    have e4 := wrI (i + 1) (by omega) (by omega)
    simp only [xbakemake_Disk_l0, ofArgs, run_seq, run_block, run_ops, run_skip, run_exit, run_ret, thenQ_normal, thenQ_exit, thenQ_ret, blockQ_normal, blockQ_exit, blockQ_ret, retQ_ret, retQ_normal, ops_nil, ops_none, got_some, ops_wT, ops_wTn, ops_wF, ops_wFn, ops_wU, dops_wT, dops_wTn, dops_wF, dops_wFn, dops_wU, run_condT, run_condF, alt2_int, altB_bool, altI_int, altBB_bool, v_min, v_max, v_not, v_neg, optEv_none, optEv_some, isSome'_none, isSome'_some, pExt0, pExt1, pExt2, Bool.false_and, Bool.true_and, Bool.not_true, Bool.not_false, cond_true, cond_false, dops_nil, dops_none, xval_call, v_mov, v_bin, v_len, v_ext, v_idxA, v_ld, v_st, v_app, v_appN, v_cvs, v_bs1, pBs1, v_slc, v_conv, v_fld, v_fldA, v_new, v_box, v_mks, v_copy, v_isnil, v_nilck, v_pick, ev, evs_nil, evs_cons, fr_get_cons, fr_put_nil, fr_put_cons, fr_put_some, fr_put_none, fr_keep_nil, fr_keep_cons, fr_has_nil, fr_has_cons, Option.bind_some, Option.map_some, xbin, ibin, xresult_eq, xress_nil, xress_tmp, resV, ex_some, if_true, if_false, ite_true, ite_false, reduceIte, reduceCtorEq, Nat.reduceEqDiff, Nat.reduceLT, Nat.reduceLeDiff, Int.reduceLT, Int.reduceLE, Nat.zero_add, Nat.reduceAdd, Bool.false_eq_true, decide_eq_true_eq, decide_eq_false_iff_not, true_implies, false_implies, and_true, true_and, hlt, decide_true, e1, pConv]
    refine pSt_own ho (by simp; omega) rfl rfl ?_
    intro H' o' st
    have kk := st.keep ho hn
    simp only [ofArgs, run_seq, run_block, run_ops, run_skip, run_exit, run_ret, thenQ_normal, thenQ_exit, thenQ_ret, blockQ_normal, blockQ_exit, blockQ_ret, retQ_ret, retQ_normal, ops_nil, ops_none, got_some, ops_wT, ops_wTn, ops_wF, ops_wFn, ops_wU, dops_wT, dops_wTn, dops_wF, dops_wFn, dops_wU, run_condT, run_condF, alt2_int, altB_bool, altI_int, altBB_bool, v_min, v_max, v_not, v_neg, optEv_none, optEv_some, isSome'_none, isSome'_some, pExt0, pExt1, pExt2, Bool.false_and, Bool.true_and, Bool.not_true, Bool.not_false, cond_true, cond_false, dops_nil, dops_none, xval_call, v_mov, v_bin, v_len, v_ext, v_idxA, v_ld, v_st, v_app, v_appN, v_cvs, v_bs1, pBs1, v_slc, v_conv, v_fld, v_fldA, v_new, v_box, v_mks, v_copy, v_isnil, v_nilck, v_pick, ev, evs_nil, evs_cons, fr_get_cons, fr_put_nil, fr_put_cons, fr_put_some, fr_put_none, fr_keep_nil, fr_keep_cons, fr_has_nil, fr_has_cons, Option.bind_some, Option.map_some, xbin, ibin, xresult_eq, xress_nil, xress_tmp, resV, ex_some, if_true, if_false, ite_true, ite_false, reduceIte, reduceCtorEq, Nat.reduceEqDiff, Nat.reduceLT, Nat.reduceLeDiff, Int.reduceLT, Int.reduceLE, Nat.zero_add, Nat.reduceAdd, Bool.false_eq_true, decide_eq_true_eq, decide_eq_false_iff_not, true_implies, false_implies, and_true, true_and, e4]
    refine ih' (l.set k (IntKind.u8.wrap (IntKind.i64.wrap (x + IntKind.i64.wrap (i * y))))) H' (i + 1) Q (by omega) (by omega) ?_ ⟨by simpa using hl.1, fun b hb => by
      rcases List.mem_or_eq_of_mem_set hb with h | h
      · exact hl.2 b h
      · subst h
        rw [wrU8m]
        exact ⟨Int.emod_nonneg _ (by decide), Int.emod_lt_of_pos _ (by decide)⟩⟩ (by have := kk.1; omega) ?_
    · unfold OwnB
      rw [List.length_set, List.map_set]
      exact o'
    · intro H2 l2 o2 hl2 k2
      exact hq H2 l2 o2 hl2 (kk.trans k2)

theorem disk8_l1 (n0 D B E : Nat) (T S : Int) (hB0 : n0 ≤ B) (hD0 : n0 ≤ D) (hE0 : n0 ≤ E) (hBD : B ≠ D) (hEB : E ≠ B) (hED : E ≠ D) (n1 : Nat) (hBn : B < n1) (hDn : D < n1) (hEn : E < n1) (N : Int) (hN : N ≤ 20) (z : Blk) (r : Nat) :
    ∀ (k : Nat) (H : AH) (sv : Value) (sl : List Int) (vd : Value) (L : List (List Int)) (i : Int) (Q : XExit → Fr → AH → Prop), k + r = N.toNat → 0 ≤ N → i = (k : Int) → L.length = k → Strm n0 H B sv sl → H.get D = some ⟨[.int .i64 T, .int .i64 S, vd], 1, false, false⟩ → H.get E = some z → OwnS n1 (fun b => b < n1) H vd L → (∀ l ∈ L, S8 l) → n1 ≤ H.n →
    (∀ H' vd' L', L'.length = N.toNat → (∀ l ∈ L', S8 l) → OwnS n1 (fun b => b < n1) H' vd' L' → H'.get D = some ⟨[.int .i64 T, .int .i64 S, vd'], 1, false, false⟩ → H'.get E = some z → Keep n0 H H' →
      Q (.exit 0) [(2, .pointer (some ⟨E, 0, none⟩)), (3, .pointer (some ⟨B, 0, none⟩)), (4, .pointer (some ⟨D, 0, none⟩)), (23, .int .i64 N), (24, .int .i64 N), (25, .bool false)] H') →
    Run Try.prog tab (.loop xbakemake_Disk_l1) [(2, .pointer (some ⟨E, 0, none⟩)), (3, .pointer (some ⟨B, 0, none⟩)), (4, .pointer (some ⟨D, 0, none⟩)), (23, .int .i64 N), (24, .int .i64 i)] H Q := by
  have hF : ∀ b, b < n1 → b < n1 := fun b h => h
  induction r with
  | zero =>
    intro k H sv sl vd L i Q hk hN0 hi hLk hstr hDg hEg ho hl hn hq
    rw [run_loop]
    generalize hLL : XCode.loop xbakemake_Disk_l1 = LL
    obtain rfl : i = N := by omega
    have hf : ¬ i < i := by omega
    simp only [xbakemake_Disk_l1, ofArgs, run_seq, run_block, run_ops, run_skip, run_exit, run_ret, thenQ_normal, thenQ_exit, thenQ_ret, blockQ_normal, blockQ_exit, blockQ_ret, retQ_ret, retQ_normal, ops_nil, ops_none, got_some, ops_wT, ops_wTn, ops_wF, ops_wFn, ops_wU, dops_wT, dops_wTn, dops_wF, dops_wFn, dops_wU, run_condT, run_condF, alt2_int, altB_bool, altI_int, altBB_bool, v_min, v_max, v_not, v_neg, optEv_none, optEv_some, isSome'_none, isSome'_some, pExt0, pExt1, pExt2, Bool.false_and, Bool.true_and, Bool.not_true, Bool.not_false, cond_true, cond_false, dops_nil, dops_none, xval_call, v_mov, v_bin, v_len, v_ext, v_idxA, v_ld, v_st, v_app, v_appN, v_cvs, v_bs1, pBs1, v_slc, v_conv, v_fld, v_fldA, v_new, v_box, v_mks, v_copy, v_isnil, v_nilck, v_pick, ev, evs_nil, evs_cons, fr_get_cons, fr_put_nil, fr_put_cons, fr_put_some, fr_put_none, fr_keep_nil, fr_keep_cons, fr_has_nil, fr_has_cons, Option.bind_some, Option.map_some, xbin, ibin, xresult_eq, xress_nil, xress_tmp, resV, ex_some, if_true, if_false, ite_true, ite_false, reduceIte, reduceCtorEq, Nat.reduceEqDiff, Nat.reduceLT, Nat.reduceLeDiff, Int.reduceLT, Int.reduceLE, Nat.zero_add, Nat.reduceAdd, Bool.false_eq_true, decide_eq_true_eq, decide_eq_false_iff_not, true_implies, false_implies, and_true, true_and, hf, decide_false]
    exact hq H vd L (by omega) hl ho hDg hEg (.refl _ _)
  | succ r ih =>
    intro k H sv sl vd L i Q hk hN0 hi hLk hstr hDg hEg ho hl hn hq
    have ih' := ih (k + 1)
    rw [run_loop]
    generalize hLL : XCode.loop xbakemake_Disk_l1 = LL
    rw [hLL] at ih'
    have hlt : i < N := by omega
    simp only [xbakemake_Disk_l1, ofArgs, run_seq, run_block, run_ops, run_skip, run_exit, run_ret, thenQ_normal, thenQ_exit, thenQ_ret, blockQ_normal, blockQ_exit, blockQ_ret, retQ_ret, retQ_normal, ops_nil, ops_none, got_some, ops_wT, ops_wTn, ops_wF, ops_wFn, ops_wU, dops_wT, dops_wTn, dops_wF, dops_wFn, dops_wU, run_condT, run_condF, alt2_int, altB_bool, altI_int, altBB_bool, v_min, v_max, v_not, v_neg, optEv_none, optEv_some, isSome'_none, isSome'_some, pExt0, pExt1, pExt2, Bool.false_and, Bool.true_and, Bool.not_true, Bool.not_false, cond_true, cond_false, dops_nil, dops_none, xval_call, v_mov, v_bin, v_len, v_ext, v_idxA, v_ld, v_st, v_app, v_appN, v_cvs, v_bs1, pBs1, v_slc, v_conv, v_fld, v_fldA, v_new, v_box, v_mks, v_copy, v_isnil, v_nilck, v_pick, ev, evs_nil, evs_cons, fr_get_cons, fr_put_nil, fr_put_cons, fr_put_some, fr_put_none, fr_keep_nil, fr_keep_cons, fr_has_nil, fr_has_cons, Option.bind_some, Option.map_some, xbin, ibin, xresult_eq, xress_nil, xress_tmp, resV, ex_some, if_true, if_false, ite_true, ite_false, reduceIte, reduceCtorEq, Nat.reduceEqDiff, Nat.reduceLT, Nat.reduceLeDiff, Int.reduceLT, Int.reduceLE, Nat.zero_add, Nat.reduceAdd, Bool.false_eq_true, decide_eq_true_eq, decide_eq_false_iff_not, true_implies, false_implies, and_true, true_and, hlt, decide_true]
    refine next_ok n0 B sv sl 256 (by omega) (by omega) H _ hstr ?_
    intro sv1 H1 hn1 hg1 hs1
    refine next_ok n0 B sv1 sl.tail 7 (by omega) (by omega) H1 _ hs1 ?_
    intro sv2 H2 hn2 hg2 hs2
    have hg12 : ∀ b, b ≠ B → H2.get b = H.get b := fun b hb => (hg2 b hb).trans (hg1 b hb)
    have hmk := pMks_ok (.int .u8 0) 128 (by omega) .i64 H2 128 rfl
    simp only [ofArgs, run_seq, run_block, run_ops, run_skip, run_exit, run_ret, thenQ_normal, thenQ_exit, thenQ_ret, blockQ_normal, blockQ_exit, blockQ_ret, retQ_ret, retQ_normal, ops_nil, ops_none, got_some, ops_wT, ops_wTn, ops_wF, ops_wFn, ops_wU, dops_wT, dops_wTn, dops_wF, dops_wFn, dops_wU, run_condT, run_condF, alt2_int, altB_bool, altI_int, altBB_bool, v_min, v_max, v_not, v_neg, optEv_none, optEv_some, isSome'_none, isSome'_some, pExt0, pExt1, pExt2, Bool.false_and, Bool.true_and, Bool.not_true, Bool.not_false, cond_true, cond_false, dops_nil, dops_none, xval_call, v_mov, v_bin, v_len, v_ext, v_idxA, v_ld, v_st, v_app, v_appN, v_cvs, v_bs1, pBs1, v_slc, v_conv, v_fld, v_fldA, v_new, v_box, v_mks, v_copy, v_isnil, v_nilck, v_pick, ev, evs_nil, evs_cons, fr_get_cons, fr_put_nil, fr_put_cons, fr_put_some, fr_put_none, fr_keep_nil, fr_keep_cons, fr_has_nil, fr_has_cons, Option.bind_some, Option.map_some, xbin, ibin, xresult_eq, xress_nil, xress_tmp, resV, ex_some, if_true, if_false, ite_true, ite_false, reduceIte, reduceCtorEq, Nat.reduceEqDiff, Nat.reduceLT, Nat.reduceLeDiff, Int.reduceLT, Int.reduceLE, Nat.zero_add, Nat.reduceAdd, Bool.false_eq_true, decide_eq_true_eq, decide_eq_false_iff_not, true_implies, false_implies, and_true, true_and, hmk, pLen]
    have x3 := hext_push H2 ⟨rep 128 [.int .u8 0], 1, false, false⟩
    have ob : OwnB H2.n (H2.push ⟨rep 128 [.int .u8 0], 1, false, false⟩) (.slice (some ⟨H2.n, 0, none⟩) 128 128) (List.replicate 128 0) := by
      have hp := Own.pushed H2 (rep 128 [.int .u8 0]) 1 128 false (by rw [rep_length]; simp)
      unfold OwnB
      rw [rep_one] at hp
      simpa [rep_one] using hp
    refine disk8_l0 H2.n _ _ _ _ _ N i (.slice (some ⟨H2.n, 0, none⟩) 128 128) 128 0 (List.replicate 128 0) _ 0 _ (by omega) rfl ob ⟨by simp, fun b hb => by have := List.eq_of_mem_replicate hb; omega⟩ (by simp) ?_
    intro H4 l' o4 hl4 k4
    have x24 : HExt H2 H4 := Keep.trans (n0 := H2.n) x3 k4
    have hn4 := x24.1
    have ho2 : OwnS n1 (fun b => b < n1) H2 vd L := ho.mono hF (by omega) fun b hb hf => hg12 b (fun e => hf (by omega))
    have ho4 := ho2.ext hF x24
    have hD4 : H4.get D = some ⟨[.int .i64 T, .int .i64 S, vd], 1, false, false⟩ := by rw [x24.2 _ (by omega), hg12 D (fun e => hBD e.symm)]; exact hDg
    have hE4 : H4.get E = some z := by rw [x24.2 _ (by omega), hg12 E hEB]; exact hEg
    have e1 := ld3_2 hD4
    simp only [ofArgs, run_seq, run_block, run_ops, run_skip, run_exit, run_ret, thenQ_normal, thenQ_exit, thenQ_ret, blockQ_normal, blockQ_exit, blockQ_ret, retQ_ret, retQ_normal, ops_nil, ops_none, got_some, ops_wT, ops_wTn, ops_wF, ops_wFn, ops_wU, dops_wT, dops_wTn, dops_wF, dops_wFn, dops_wU, run_condT, run_condF, alt2_int, altB_bool, altI_int, altBB_bool, v_min, v_max, v_not, v_neg, optEv_none, optEv_some, isSome'_none, isSome'_some, pExt0, pExt1, pExt2, Bool.false_and, Bool.true_and, Bool.not_true, Bool.not_false, cond_true, cond_false, dops_nil, dops_none, xval_call, v_mov, v_bin, v_len, v_ext, v_idxA, v_ld, v_st, v_app, v_appN, v_cvs, v_bs1, pBs1, v_slc, v_conv, v_fld, v_fldA, v_new, v_box, v_mks, v_copy, v_isnil, v_nilck, v_pick, ev, evs_nil, evs_cons, fr_get_cons, fr_put_nil, fr_put_cons, fr_put_some, fr_put_none, fr_keep_nil, fr_keep_cons, fr_has_nil, fr_has_cons, Option.bind_some, Option.map_some, xbin, ibin, xresult_eq, xress_nil, xress_tmp, resV, ex_some, if_true, if_false, ite_true, ite_false, reduceIte, reduceCtorEq, Nat.reduceEqDiff, Nat.reduceLT, Nat.reduceLeDiff, Int.reduceLT, Int.reduceLE, Nat.zero_add, Nat.reduceAdd, Bool.false_eq_true, decide_eq_true_eq, decide_eq_false_iff_not, true_implies, false_implies, and_true, true_and, pFldA_ptr, e1]
    refine appS ho4 (by omega) o4.1 (fun b hb => ?_) (by omega) ?_
    · obtain ⟨o2, l2, c2, e⟩ := hb
      have hb2 := (o4.2 b o2 l2 c2 e).1
      exact ⟨fun hv => by have := (ho2.lt hv).2; omega, fun hf => by omega⟩
    intro vd' H5 o5 st
    have hn5 := st.n
    have hP : ∀ b, b < n1 → ¬ inB vd b := fun b hb hv => by have := (ho4.lt hv).1; omega
    have hD5 : H5.get D = some ⟨[.int .i64 T, .int .i64 S, vd], 1, false, false⟩ := by rw [st.get D (by omega) (hP D hDn)]; exact hD4
    have hE5 : H5.get E = some z := by rw [st.get E (by omega) (hP E hEn)]; exact hE4
    obtain ⟨q1, q2, _⟩ := o5.secs.sl
    have e2 := st3_2 hD5 q1 q2
    have e4 := wrI (i + 1) (by omega) (by omega)
    simp only [ofArgs, run_seq, run_block, run_ops, run_skip, run_exit, run_ret, thenQ_normal, thenQ_exit, thenQ_ret, blockQ_normal, blockQ_exit, blockQ_ret, retQ_ret, retQ_normal, ops_nil, ops_none, got_some, ops_wT, ops_wTn, ops_wF, ops_wFn, ops_wU, dops_wT, dops_wTn, dops_wF, dops_wFn, dops_wU, run_condT, run_condF, alt2_int, altB_bool, altI_int, altBB_bool, v_min, v_max, v_not, v_neg, optEv_none, optEv_some, isSome'_none, isSome'_some, pExt0, pExt1, pExt2, Bool.false_and, Bool.true_and, Bool.not_true, Bool.not_false, cond_true, cond_false, dops_nil, dops_none, xval_call, v_mov, v_bin, v_len, v_ext, v_idxA, v_ld, v_st, v_app, v_appN, v_cvs, v_bs1, pBs1, v_slc, v_conv, v_fld, v_fldA, v_new, v_box, v_mks, v_copy, v_isnil, v_nilck, v_pick, ev, evs_nil, evs_cons, fr_get_cons, fr_put_nil, fr_put_cons, fr_put_some, fr_put_none, fr_keep_nil, fr_keep_cons, fr_has_nil, fr_has_cons, Option.bind_some, Option.map_some, xbin, ibin, xresult_eq, xress_nil, xress_tmp, resV, ex_some, if_true, if_false, ite_true, ite_false, reduceIte, reduceCtorEq, Nat.reduceEqDiff, Nat.reduceLT, Nat.reduceLeDiff, Int.reduceLT, Int.reduceLE, Nat.zero_add, Nat.reduceAdd, Bool.false_eq_true, decide_eq_true_eq, decide_eq_false_iff_not, true_implies, false_implies, and_true, true_and, pFldA_ptr, e2, e4]
    have hget6 : ∀ b, b < n1 → b ≠ D → b ≠ B → (H5.set D ⟨[.int .i64 T, .int .i64 S, vd'], 1, false, false⟩).get b = H.get b := by
      intro b hb hbd hbb
      rw [AH.get_set, if_neg hbd, st.get b (by omega) (hP b hb), x24.2 _ (by omega), hg12 b hbb]
    have hs6 : Strm n0 (H5.set D ⟨[.int .i64 T, .int .i64 S, vd'], 1, false, false⟩) B sv2 sl.tail.tail := by
      refine hs2.mono (by show _ ≤ H5.n; omega) fun b hb => ?_
      have hbn : b < n1 := by omega
      rw [AH.get_set, if_neg (by omega), st.get b (by omega) (hP b hbn), x24.2 _ (by omega)]
    have o6 : OwnS n1 (fun b => b < n1) (H5.set D ⟨[.int .i64 T, .int .i64 S, vd'], 1, false, false⟩) vd' (L ++ [l']) := by
      refine o5.mono hF (Nat.le_refl _) fun b hb hf => ?_
      rw [AH.get_set, if_neg (fun e => hf (by omega))]
    refine ih' (H5.set D ⟨[.int .i64 T, .int .i64 S, vd'], 1, false, false⟩) sv2 sl.tail.tail vd' (L ++ [l']) (i + 1) Q (by omega) hN0 (by omega) (by simp; omega) hs6 (by rw [AH.get_set, if_pos rfl]) (by rw [AH.get_set, if_neg hED]; exact hE5) o6 ?_ (by show _ ≤ H5.n; omega) ?_
    · intro l hml
      rcases List.mem_append.1 hml with h | h
      · exact hl l h
      · simp at h; rw [h]; exact hl4
    · intro H7 vd7 L7 a1 a2 a3 a4 a5 k7
      refine hq H7 vd7 L7 a1 a2 a3 a4 a5 (Keep.trans ⟨by show _ ≤ H5.n; omega, fun b hb => hget6 b (by omega) (by omega) (by omega)⟩ k7)

theorem disk8_ok (l : List Int) (s : Value) (H : AH) (Q : Value → AH → Prop) (hs : Ints H s l) (hq : ∀ (T S : Int) (v : Value) (L : List (List Int)) (H' : AH), 1 ≤ T → T ≤ 3 → 1 ≤ S → S ≤ 4 → (L.length : Int) = T * S → (∀ l ∈ L, S8 l) → Secs H' v L → HExt H H' → Q (.agg #[.int .i64 T, .int .i64 S, v]) H') :
    Got (xc Try.prog tab 55 [s] H) Q := by
  refine got_call (res := [.cell 2 (some 3)]) rfl ?_
  obtain ⟨o1, o2⟩ := sl_slice hs
  have o3 := fun H => pMk1_slice H o1 o2
  simp only [ofArgs, run_seq, run_block, run_ops, run_skip, run_exit, run_ret, thenQ_normal, thenQ_exit, thenQ_ret, blockQ_normal, blockQ_exit, blockQ_ret, retQ_ret, retQ_normal, ops_nil, ops_none, got_some, ops_wT, ops_wTn, ops_wF, ops_wFn, ops_wU, dops_wT, dops_wTn, dops_wF, dops_wFn, dops_wU, run_condT, run_condF, alt2_int, altB_bool, altI_int, altBB_bool, v_min, v_max, v_not, v_neg, optEv_none, optEv_some, isSome'_none, isSome'_some, pExt0, pExt1, pExt2, Bool.false_and, Bool.true_and, Bool.not_true, Bool.not_false, cond_true, cond_false, dops_nil, dops_none, xval_call, v_mov, v_bin, v_len, v_ext, v_idxA, v_ld, v_st, v_app, v_appN, v_cvs, v_bs1, pBs1, v_slc, v_conv, v_fld, v_fldA, v_new, v_box, v_mks, v_copy, v_isnil, v_nilck, v_pick, ev, evs_nil, evs_cons, fr_get_cons, fr_put_nil, fr_put_cons, fr_put_some, fr_put_none, fr_keep_nil, fr_keep_cons, fr_has_nil, fr_has_cons, Option.bind_some, Option.map_some, xbin, ibin, xresult_eq, xress_nil, xress_tmp, resV, ex_some, if_true, if_false, ite_true, ite_false, reduceIte, reduceCtorEq, Nat.reduceEqDiff, Nat.reduceLT, Nat.reduceLeDiff, Int.reduceLT, Int.reduceLE, Nat.zero_add, Nat.reduceAdd, Bool.false_eq_true, decide_eq_true_eq, decide_eq_false_iff_not, true_implies, false_implies, and_true, true_and, v_mk1, o3, box1, AH.push_n]
  have x1 : HExt H ((H.push ⟨[.int .i64 0, .int .i64 0, .slice none 0 0], 1, false, false⟩).push ⟨[s], 1, false, false⟩) := (hext_push H _).trans (hext_push _ _)
  have h1 : Strm H.n ((H.push ⟨[.int .i64 0, .int .i64 0, .slice none 0 0], 1, false, false⟩).push ⟨[s], 1, false, false⟩) (H.n + 1) s l :=
    ⟨by omega, by simp, by rw [AH.get_push, if_pos (by simp)], Sl.ext x1 hs, fun b hb => Sl.lt hs hb⟩
  have gE : ((H.push ⟨[.int .i64 0, .int .i64 0, .slice none 0 0], 1, false, false⟩).push ⟨[s], 1, false, false⟩).get H.n = some ⟨[.int .i64 0, .int .i64 0, .slice none 0 0], 1, false, false⟩ := by
    rw [AH.get_push, if_neg (by simp), AH.get_push, if_pos rfl]
  have hna : ((H.push ⟨[.int .i64 0, .int .i64 0, .slice none 0 0], 1, false, false⟩).push ⟨[s], 1, false, false⟩).n = H.n + 2 := by simp
  generalize ((H.push ⟨[.int .i64 0, .int .i64 0, .slice none 0 0], 1, false, false⟩).push ⟨[s], 1, false, false⟩) = Ha at x1 h1 gE hna
  refine next_ok H.n (H.n + 1) s l 3 (by omega) (by omega) Ha _ h1 ?_
  intro s1 H1 hn1 hg1 hs1
  have a0 := Int.emod_nonneg (l.headD 0) (by omega : (3 : Int) ≠ 0)
  have a1 := Int.emod_lt_of_pos (l.headD 0) (by omega : (0 : Int) < 3)
  have w1 := wrI (1 + l.headD 0 % 3) (by omega) (by omega)
  simp only [ofArgs, run_seq, run_block, run_ops, run_skip, run_exit, run_ret, thenQ_normal, thenQ_exit, thenQ_ret, blockQ_normal, blockQ_exit, blockQ_ret, retQ_ret, retQ_normal, ops_nil, ops_none, got_some, ops_wT, ops_wTn, ops_wF, ops_wFn, ops_wU, dops_wT, dops_wTn, dops_wF, dops_wFn, dops_wU, run_condT, run_condF, alt2_int, altB_bool, altI_int, altBB_bool, v_min, v_max, v_not, v_neg, optEv_none, optEv_some, isSome'_none, isSome'_some, pExt0, pExt1, pExt2, Bool.false_and, Bool.true_and, Bool.not_true, Bool.not_false, cond_true, cond_false, dops_nil, dops_none, xval_call, v_mov, v_bin, v_len, v_ext, v_idxA, v_ld, v_st, v_app, v_appN, v_cvs, v_bs1, pBs1, v_slc, v_conv, v_fld, v_fldA, v_new, v_box, v_mks, v_copy, v_isnil, v_nilck, v_pick, ev, evs_nil, evs_cons, fr_get_cons, fr_put_nil, fr_put_cons, fr_put_some, fr_put_none, fr_keep_nil, fr_keep_cons, fr_has_nil, fr_has_cons, Option.bind_some, Option.map_some, xbin, ibin, xresult_eq, xress_nil, xress_tmp, resV, ex_some, if_true, if_false, ite_true, ite_false, reduceIte, reduceCtorEq, Nat.reduceEqDiff, Nat.reduceLT, Nat.reduceLeDiff, Int.reduceLT, Int.reduceLE, Nat.zero_add, Nat.reduceAdd, Bool.false_eq_true, decide_eq_true_eq, decide_eq_false_iff_not, true_implies, false_implies, and_true, true_and, w1]
  refine next_ok H.n (H.n + 1) s1 l.tail 4 (by omega) (by omega) H1 _ hs1 ?_
  intro s2 H2 hn2 hg2 hs2
  have b0 := Int.emod_nonneg (l.tail.headD 0) (by omega : (4 : Int) ≠ 0)
  have b1 := Int.emod_lt_of_pos (l.tail.headD 0) (by omega : (0 : Int) < 4)
  have w2 := wrI (1 + l.tail.headD 0 % 4) (by omega) (by omega)
  have hT : ∃ T, T = 1 + l.headD 0 % 3 := ⟨_, rfl⟩
  have hS : ∃ S, S = 1 + l.tail.headD 0 % 4 := ⟨_, rfl⟩
  obtain ⟨T, hT⟩ := hT
  obtain ⟨S, hS⟩ := hS
  have eb : ∀ (fr : Fr) (H : AH), ev fr (.tmp 14) = some (.int .i64 T) → ev fr (.tmp 17) = some (.int .i64 S) → xval Try.prog (xc Try.prog tab) ⟨some 18, .build [.int .i64 0, .int .i64 0, .slice none 0 0] [(0, 1, .tmp 14), (1, 1, .tmp 17)], none⟩ fr H = some (.agg #[.int .i64 T, .int .i64 S, .slice none 0 0], H) := by
    intro fr H h1 h2
    rw [xval_op (some 18) _ fr H rfl, e_build]
    simp only [xfill, h1, h2]
    rfl
  rw [← hS] at w2
  have g3 : (H2.push ⟨[.int .i64 0, .int .i64 0, .slice none 0 0], 1, false, false⟩).get H2.n = some ⟨[.int .i64 0, .int .i64 0, .slice none 0 0], 1, false, false⟩ := by rw [AH.get_push, if_pos rfl]
  have e3 := st3 (a' := .int .i64 T) (b' := .int .i64 S) (c' := .slice none 0 0) g3 rfl rfl rfl
  have g4 : ((H2.push ⟨[.int .i64 0, .int .i64 0, .slice none 0 0], 1, false, false⟩).set H2.n ⟨[.int .i64 T, .int .i64 S, .slice none 0 0], 1, false, false⟩).get H2.n = some ⟨[.int .i64 T, .int .i64 S, .slice none 0 0], 1, false, false⟩ := by rw [AH.get_set, if_pos rfl]
  have e4 := ld3_0 g4
  have e5 := ld3_1 g4
  have m1 : T * S ≤ 3 * S := Int.mul_le_mul_of_nonneg_right (by omega) (by omega)
  have m2 : 1 * S ≤ T * S := Int.mul_le_mul_of_nonneg_right (by omega) (by omega)
  have w3 := wrI (T * S) (by omega) (by omega)
  simp only [ofArgs, run_seq, run_block, run_ops, run_skip, run_exit, run_ret, thenQ_normal, thenQ_exit, thenQ_ret, blockQ_normal, blockQ_exit, blockQ_ret, retQ_ret, retQ_normal, ops_nil, ops_none, got_some, ops_wT, ops_wTn, ops_wF, ops_wFn, ops_wU, dops_wT, dops_wTn, dops_wF, dops_wFn, dops_wU, run_condT, run_condF, alt2_int, altB_bool, altI_int, altBB_bool, v_min, v_max, v_not, v_neg, optEv_none, optEv_some, isSome'_none, isSome'_some, pExt0, pExt1, pExt2, Bool.false_and, Bool.true_and, Bool.not_true, Bool.not_false, cond_true, cond_false, dops_nil, dops_none, xval_call, v_mov, v_bin, v_len, v_ext, v_idxA, v_ld, v_st, v_app, v_appN, v_cvs, v_bs1, pBs1, v_slc, v_conv, v_fld, v_fldA, v_new, v_box, v_mks, v_copy, v_isnil, v_nilck, v_pick, ev, evs_nil, evs_cons, fr_get_cons, fr_put_nil, fr_put_cons, fr_put_some, fr_put_none, fr_keep_nil, fr_keep_cons, fr_has_nil, fr_has_cons, Option.bind_some, Option.map_some, xbin, ibin, xresult_eq, xress_nil, xress_tmp, resV, ex_some, if_true, if_false, ite_true, ite_false, reduceIte, reduceCtorEq, Nat.reduceEqDiff, Nat.reduceLT, Nat.reduceLeDiff, Int.reduceLT, Int.reduceLE, Nat.zero_add, Nat.reduceAdd, Bool.false_eq_true, decide_eq_true_eq, decide_eq_false_iff_not, true_implies, false_implies, and_true, true_and, ← hT, ← hS, w2, eb, e3, pFldA_ptr, e4, e5, w3]
  have hget : ∀ b, b < H2.n → b ≠ H.n + 1 → ((H2.push ⟨[.int .i64 0, .int .i64 0, .slice none 0 0], 1, false, false⟩).set H2.n ⟨[.int .i64 T, .int .i64 S, .slice none 0 0], 1, false, false⟩).get b = Ha.get b := by
    intro b hb hbb
    rw [AH.get_set, if_neg (by omega), AH.get_push, if_neg (by omega), hg2 b hbb, hg1 b hbb]
  have hs4 : Strm H.n ((H2.push ⟨[.int .i64 0, .int .i64 0, .slice none 0 0], 1, false, false⟩).set H2.n ⟨[.int .i64 T, .int .i64 S, .slice none 0 0], 1, false, false⟩) (H.n + 1) s2 l.tail.tail := by
    refine hs2.mono (by show _ ≤ H2.n + 1; omega) fun b hb => ?_
    rw [AH.get_set, if_neg (by omega), AH.get_push, if_neg (by omega)]
  have gE4 : ((H2.push ⟨[.int .i64 0, .int .i64 0, .slice none 0 0], 1, false, false⟩).set H2.n ⟨[.int .i64 T, .int .i64 S, .slice none 0 0], 1, false, false⟩).get H.n = some ⟨[.int .i64 0, .int .i64 0, .slice none 0 0], 1, false, false⟩ := by
    rw [hget H.n (by omega) (by omega)]; exact gE
  refine disk8_l1 H.n H2.n (H.n + 1) H.n T S (by omega) (by omega) (by omega) (by omega) (by omega) (by omega) (H2.n + 1) (by omega) (by omega) (by omega) (T * S) (by omega) _ (T * S).toNat 0 _ s2 l.tail.tail (.slice none 0 0) [] 0 _ (by omega) (by omega) rfl rfl hs4 g4 gE4 (OwnS.nil _ _ _) (fun l hl => by cases hl) (by show _ ≤ H2.n + 1; omega) ?_
  intro H5 vd L hL hl5 o5 gD5 gE5 k5
  have e6 := ld3 gD5
  obtain ⟨q1, q2, _⟩ := o5.secs.sl
  have e7 := st3 (a' := .int .i64 T) (b' := .int .i64 S) (c' := vd) gE5 rfl rfl q1
  have g6 : (H5.set H.n ⟨[.int .i64 T, .int .i64 S, vd], 1, false, false⟩).get H.n = some ⟨[.int .i64 T, .int .i64 S, vd], 1, false, false⟩ := by rw [AH.get_set, if_pos rfl]
  have hcell : ∀ fr : Fr, fr.get 2 = some (.pointer (some ⟨H.n, 0, none⟩)) → xress fr (H5.set H.n ⟨[.int .i64 T, .int .i64 S, vd], 1, false, false⟩) [.cell 2 (some 3)] = some [.agg #[.int .i64 T, .int .i64 S, vd]] := by
    intro fr hfr
    rw [xress_cell fr _ 2 _ 0 (some 3) _ (.agg #[.int .i64 T, .int .i64 S, vd]) [] hfr g6 rfl, xress_nil]; rfl
  simp only [ofArgs, run_seq, run_block, run_ops, run_skip, run_exit, run_ret, thenQ_normal, thenQ_exit, thenQ_ret, blockQ_normal, blockQ_exit, blockQ_ret, retQ_ret, retQ_normal, ops_nil, ops_none, got_some, ops_wT, ops_wTn, ops_wF, ops_wFn, ops_wU, dops_wT, dops_wTn, dops_wF, dops_wFn, dops_wU, run_condT, run_condF, alt2_int, altB_bool, altI_int, altBB_bool, v_min, v_max, v_not, v_neg, optEv_none, optEv_some, isSome'_none, isSome'_some, pExt0, pExt1, pExt2, Bool.false_and, Bool.true_and, Bool.not_true, Bool.not_false, cond_true, cond_false, dops_nil, dops_none, xval_call, v_mov, v_bin, v_len, v_ext, v_idxA, v_ld, v_st, v_app, v_appN, v_cvs, v_bs1, pBs1, v_slc, v_conv, v_fld, v_fldA, v_new, v_box, v_mks, v_copy, v_isnil, v_nilck, v_pick, ev, evs_nil, evs_cons, fr_get_cons, fr_put_nil, fr_put_cons, fr_put_some, fr_put_none, fr_keep_nil, fr_keep_cons, fr_has_nil, fr_has_cons, Option.bind_some, Option.map_some, xbin, ibin, xresult_eq, xress_nil, xress_tmp, resV, ex_some, if_true, if_false, ite_true, ite_false, reduceIte, reduceCtorEq, Nat.reduceEqDiff, Nat.reduceLT, Nat.reduceLeDiff, Int.reduceLT, Int.reduceLE, Nat.zero_add, Nat.reduceAdd, Bool.false_eq_true, decide_eq_true_eq, decide_eq_false_iff_not, true_implies, false_implies, and_true, true_and, e6, e7, hcell]
  have hk5 := k5.1
  refine hq T S vd L _ (by omega) (by omega) (by omega) (by omega) (by omega) hl5 ?_ ?_
  · have := o5.mono (H' := H5.set H.n ⟨[.int .i64 T, .int .i64 S, vd], 1, false, false⟩) (fun b h => h) (Nat.le_refl _) fun b hb hf => by
      rw [AH.get_set, if_neg (fun e => hf (by omega))]
    exact this.secs
  · refine Keep.trans (n0 := H.n) (B := Ha) x1 (Keep.trans (n0 := H.n) (B := ((H2.push ⟨[.int .i64 0, .int .i64 0, .slice none 0 0], 1, false, false⟩).set H2.n ⟨[.int .i64 T, .int .i64 S, .slice none 0 0], 1, false, false⟩)) ⟨by show _ ≤ H2.n + 1; omega, fun b hb => hget b (by omega) (by omega)⟩ (Keep.trans (B := H5) k5 ⟨Nat.le_refl _, fun b hb => ?_⟩))
    rw [AH.get_set, if_neg (by omega)]
end Go.Proofs.Ytejedmocjdcdgaa.D

set_option linter.unusedSimpArgs false
set_option linter.unusedVariables false
namespace Go.Proofs.Ytejedmocjdcdgaa.D
open Go Go.Det

/-! ### slices of slices -/
def VSL : LS (Value × List Int) := ⟨1, fun p => [p.1], fun _ => rfl, by decide⟩
theorem vsl_cells (l : List (Value × List Int)) : VSL.cells l = l.map (·.1) := by
  induction l with
  | nil => rfl
  | cons p l ih =>
    have : VSL.cells (p :: l) = VSL.f p ++ VSL.cells l := by simp [LS.cells]
    rw [this, ih]
    rfl
theorem slice_form {H : AH} {sz n : Nat} {v : Value} {cs : List Value} (h : Sl H sz v n cs) : ∃ p l c, v = .slice p l c := by
  rcases h with ⟨rfl, _⟩ | ⟨B, o, rfl, _⟩ | ⟨B, o, c, blk, rfl, _⟩ <;> exact ⟨_, _, _, rfl⟩
theorem vsl_at {H : AH} {v : Value} {l : List (Value × List Int)} (h : SL VSL H v l) (i : Int) (k : Nat) (hi : i = (k : Int)) (p : Value × List Int) (hp : l[k]? = some p) : pIdx 1 v (.int .i64 i) H = some (ptrAt v k, H) ∧ pLd none (ptrAt v k) H = some (p.1, H) := by
  have hk : k < l.length := (List.getElem?_eq_some_iff.1 hp).1
  have h' : Sl H 1 v l.length (l.map (·.1)) := by have := h; unfold SL at this; rw [vsl_cells] at this; exact this
  exact ⟨pIdx_one h' .i64 i k hi hk, pLd_one h' k _ (by simp [hp])⟩
def SSb (H : AH) (v : Value) (l : List (Value × List Int)) : Prop := SL VSL H v l ∧ ∀ p ∈ l, Byts H p.1 p.2
theorem SSb.ext {H H' : AH} {v : Value} {l : List (Value × List Int)} (h : SSb H v l) (x : HExt H H') : SSb H' v l := ⟨h.1.ext x, fun p hp => Sl.ext x (h.2 p hp)⟩
theorem ssb_of {H : AH} {v : Value} {L : List (List Int)} (h : Secs H v L) : ∃ l : List (Value × List Int), l.map (·.2) = L ∧ SSb H v l := by
  obtain ⟨vs, h1, h2⟩ := h
  have hlen : vs.length = L.length := by have := h1.len; omega
  refine ⟨vs.zip L, List.map_snd_zip (by omega), ?_, fun p hp => ?_⟩
  · unfold SL
    have e : (vs.zip L).length = L.length := by simp [hlen]
    rw [vsl_cells, List.map_fst_zip (by omega), e]
    exact h1
  · obtain ⟨i, hi, rfl⟩ := List.getElem_of_mem hp
    simp only [List.getElem_zip]
    have hiv : i < vs.length := by simp at hi; omega
    obtain ⟨l, hl, hb⟩ := (h2 i (vs[i]) (List.getElem?_eq_getElem hiv))
    have hiL : i < L.length := by omega
    rw [List.getElem?_eq_getElem hiL] at hl
    cases hl
    exact hb

/-! ### the sectors of a track -/
def tt (L : List (List Int)) (S t k : Nat) : List (Int × Int × List Int × Bool) := (List.range k).map fun n : Nat => ((t : Int), (n : Int), L.getD (t * S + n) [], false)
theorem tt_succ (L : List (List Int)) (S t k : Nat) : tt L S t (k + 1) = tt L S t k ++ [((t : Int), (k : Int), L.getD (t * S + k) [], false)] := by simp [tt, List.range_succ]
theorem tt_len (L : List (List Int)) (S t k : Nat) : (tt L S t k).length = k := by simp [tt]
theorem tt_ok (L : List (List Int)) (S t : Nat) (hL : ∀ l ∈ L, S8 l) (ht : t < 20) (hS : S ≤ 12) (hb : t * S + S ≤ L.length) (sl : List SD) (h : sl.map told = tt L S t S) : ∀ s ∈ sl, SdOk s := by
  intro s hs
  have hm : told s ∈ tt L S t S := by rw [← h]; exact List.mem_map_of_mem hs
  unfold tt at hm
  simp only [List.mem_map, List.mem_range] at hm
  obtain ⟨n, hn, he⟩ := hm
  simp only [told, Prod.mk.injEq] at he
  obtain ⟨e1, e2, e3, e4⟩ := he
  have hi : t * S + n < L.length := by omega
  have h8 := hL _ (List.getElem_mem hi)
  rw [List.getD_eq_getElem?_getD, List.getElem?_eq_getElem hi, Option.getD_some] at e3
  rw [e3] at h8
  exact ⟨by omega, by omega, by omega, by omega, h8.1, h8.2⟩
def alt3S (o1 o2 o3 : Option Value) (f : Int → Int → Option Addr → Nat → Nat → Option (Value × AH)) (z : Option (Value × AH)) : Option (Value × AH) :=
  match o1, o2, o3 with
  | some (.int .i64 a), some (.int .i64 b), some (.slice p l c) => f a b p l c
  | _, _, _ => z
theorem alt3S_val (a b : Int) (p : Option Addr) (l c : Nat) (f : Int → Int → Option Addr → Nat → Nat → Option (Value × AH)) (z : Option (Value × AH)) : alt3S (some (.int .i64 a)) (some (.int .i64 b)) (some (.slice p l c)) f z = f a b p l c := rfl
theorem v_b4iw {P : Program} {T : XTab} (fr : Fr) (H : AH) (dd : Option Nat) (x y u : Operand) (z0 z1 z2 z3 : Value) : xval P (xc P T) ⟨dd, .build [z0, z1, z2, z3] [(0, 1, x), (1, 1, y), (2, 1, u)], none⟩ fr H =
    alt3S (ev fr x) (ev fr y) (ev fr u) (fun a b p l c => some (.agg #[.int .i64 a, .int .i64 b, .slice p l c, z3], H)) (xop P fr H (.build [z0, z1, z2, z3] [(0, 1, x), (1, 1, y), (2, 1, u)])) := by
  rw [xval_op dd _ fr H rfl]
  unfold alt3S
  split
  · rename_i a b p l c h1 h2 h3
    rw [e_build]
    simp only [xfill, h1, h2, h3]
    rfl
  · rfl
/-- what a disk needs to be read -/
structure DkOk (n0 E : Nat) (H : AH) (T S : Nat) (vd : Value) (ld : List (Value × List Int)) : Prop where
  box : H.get E = some ⟨[.int .i64 (T : Int), .int .i64 (S : Int), vd], 1, false, false⟩
  lt : E < n0
  ss : SSb H vd ld
  vb : ∀ b, inB vd b → b < n0
  wb : ∀ p ∈ ld, ∀ b, inB p.1 b → b < n0
theorem DkOk.keep {n0 E : Nat} {H H' : AH} {T S : Nat} {vd : Value} {ld : List (Value × List Int)} (h : DkOk n0 E H T S vd ld) (k : Keep n0 H H') : DkOk n0 E H' T S vd ld :=
  ⟨(k.2 E h.lt).trans h.box, h.lt, ⟨Sl.keep k h.ss.1 h.vb, fun p hp => Sl.keep k (h.ss.2 p hp) (h.wb p hp)⟩, h.vb, h.wb⟩
theorem DkOk.le {n0 n1 E : Nat} {H : AH} {T S : Nat} {vd : Value} {ld : List (Value × List Int)} (h : DkOk n0 E H T S vd ld) (hl : n0 ≤ n1) : DkOk n1 E H T S vd ld :=
  ⟨h.box, by have := h.lt; omega, h.ss, fun b hb => by have := h.vb b hb; omega, fun p hp b hb => by have := h.wb p hp b hb; omega⟩

set_option maxHeartbeats 2000000 in
theorem trk_l0 (n0 E T S t : Nat) (cell vo vd : Value) (N i : Int) (ld : List (Value × List Int)) (ht : t < 20) (hS : S ≤ 12) (hb : t * S + S ≤ ld.length) (r : Nat) : ∀ (k : Nat) (sl : List SD) (vs : Value) (H : AH) (Q : XExit → Fr → AH → Prop), k + r = S → DkOk n0 E H T S vd ld → OutD n0 H vs sl → n0 ≤ H.n → sl.map told = tt (ld.map (·.2)) S t k →
    (∀ H' vs' sl', OutD n0 H' vs' sl' → sl'.map told = tt (ld.map (·.2)) S t S → Keep n0 H H' → Q (.exit 2) [(1, cell), (2, .pointer (some ⟨E, 0, none⟩)), (7, vo), (8, .int .i64 (t : Int)), (9, vs'), (19, .int .i64 N), (20, .int .i64 i), (24, .int .i64 (S : Int)), (25, .int .i64 (S : Int)), (26, .bool false)] H') →
    Run Try.prog tab (.loop ximage_Tracks_l0) [(1, cell), (2, .pointer (some ⟨E, 0, none⟩)), (7, vo), (8, .int .i64 (t : Int)), (9, vs), (19, .int .i64 N), (20, .int .i64 i), (24, .int .i64 (S : Int)), (25, .int .i64 (k : Int))] H Q := by
  induction r with
  | zero =>
    intro k sl vs H Q hk hd ho hn hm hq
    have : k = S := by omega
    subst this
    rw [run_loop]
    generalize hL : XCode.loop ximage_Tracks_l0 = L
    have hf : ¬ (k : Int) < (k : Int) := by omega
    simp only [ximage_Tracks_l0, ofArgs, run_seq, run_block, run_ops, run_skip, run_exit, run_ret, thenQ_normal, thenQ_exit, thenQ_ret, blockQ_normal, blockQ_exit, blockQ_ret, retQ_ret, retQ_normal, ops_nil, ops_none, got_some, ops_wT, ops_wTn, ops_wF, ops_wFn, ops_wU, dops_wT, dops_wTn, dops_wF, dops_wFn, dops_wU, run_condT, run_condF, alt2_int, altB_bool, altI_int, altBB_bool, v_min, v_max, v_not, v_neg, optEv_none, optEv_some, isSome'_none, isSome'_some, pExt0, pExt1, pExt2, Bool.false_and, Bool.true_and, Bool.not_true, Bool.not_false, cond_true, cond_false, dops_nil, dops_none, xval_call, v_mov, v_bin, v_len, v_ext, v_idxA, v_ld, v_st, v_app, v_appN, v_cvs, v_bs1, pBs1, v_slc, v_conv, v_fld, v_fldA, v_new, v_box, v_mks, v_copy, v_isnil, v_nilck, v_pick, ev, evs_nil, evs_cons, fr_get_cons, fr_put_nil, fr_put_cons, fr_put_some, fr_put_none, fr_keep_nil, fr_keep_cons, fr_has_nil, fr_has_cons, Option.bind_some, Option.map_some, xbin, ibin, xresult_eq, xress_nil, xress_tmp, resV, ex_some, if_true, if_false, ite_true, ite_false, reduceIte, reduceCtorEq, Nat.reduceEqDiff, Nat.reduceLT, Nat.reduceLeDiff, Int.reduceLT, Int.reduceLE, Nat.zero_add, Nat.reduceAdd, Bool.false_eq_true, decide_eq_true_eq, decide_eq_false_iff_not, true_implies, false_implies, and_true, true_and, hf, decide_false]
    exact hq H vs sl ho hm (.refl _ _)
  | succ r ih =>
    intro k sl vs H Q hk hd ho hn hm hq
    rw [run_loop]
    generalize hL : XCode.loop ximage_Tracks_l0 = L
    have hlt : (k : Int) < (S : Int) := by omega
    have l1 := ld3_1 hd.box
    have l2 := ld3_2 hd.box
    have hmul : t * S ≤ 20 * 12 := Nat.mul_le_mul (by omega) hS
    have w1 : IntKind.i64.wrap ((t : Int) * (S : Int)) = ((t * S : Nat) : Int) := by rw [← Int.natCast_mul, wrI _ (by omega) (by omega)]
    have w2 : IntKind.i64.wrap (((t * S : Nat) : Int) + (k : Int)) = ((t * S + k : Nat) : Int) := by rw [wrI _ (by omega) (by omega)]; omega
    have hi : t * S + k < ld.length := by omega
    obtain ⟨a1, a2⟩ := vsl_at hd.ss.1 ((t * S + k : Nat) : Int) (t * S + k) rfl (ld[t * S + k]) (List.getElem?_eq_getElem hi)
    have hmem : ld[t * S + k] ∈ ld := List.getElem_mem hi
    have hbw := hd.ss.2 _ hmem
    have hwb := hd.wb _ hmem
    have hbs : (ld.map (·.2)).getD (t * S + k) [] = (ld[t * S + k]).2 := by rw [List.getD_eq_getElem?_getD, List.getElem?_map, List.getElem?_eq_getElem hi]; rfl
    generalize ld[t * S + k] = p at *
    obtain ⟨w, bs⟩ := p
    obtain ⟨q, ln, cp, hw⟩ := slice_form hbw
    simp only at hw a2 hbw hwb hbs
    have o1 : one w = true := (slice_one hbw).1
    subst hw
    have ps := fun H => pS4_of ⟨(t : Int), (k : Int), .slice q ln cp, bs, false⟩ H o1
    simp only at ps
    have w3 := wrI ((k : Int) + 1) (by omega) (by omega)
    simp only [ximage_Tracks_l0, ofArgs, run_seq, run_block, run_ops, run_skip, run_exit, run_ret, thenQ_normal, thenQ_exit, thenQ_ret, blockQ_normal, blockQ_exit, blockQ_ret, retQ_ret, retQ_normal, ops_nil, ops_none, got_some, ops_wT, ops_wTn, ops_wF, ops_wFn, ops_wU, dops_wT, dops_wTn, dops_wF, dops_wFn, dops_wU, run_condT, run_condF, alt2_int, altB_bool, altI_int, altBB_bool, v_min, v_max, v_not, v_neg, optEv_none, optEv_some, isSome'_none, isSome'_some, pExt0, pExt1, pExt2, Bool.false_and, Bool.true_and, Bool.not_true, Bool.not_false, cond_true, cond_false, dops_nil, dops_none, xval_call, v_mov, v_bin, v_len, v_ext, v_idxA, v_ld, v_st, v_app, v_appN, v_cvs, v_bs1, pBs1, v_slc, v_conv, v_fld, v_fldA, v_new, v_box, v_mks, v_copy, v_isnil, v_nilck, v_pick, ev, evs_nil, evs_cons, fr_get_cons, fr_put_nil, fr_put_cons, fr_put_some, fr_put_none, fr_keep_nil, fr_keep_cons, fr_has_nil, fr_has_cons, Option.bind_some, Option.map_some, xbin, ibin, xresult_eq, xress_nil, xress_tmp, resV, ex_some, if_true, if_false, ite_true, ite_false, reduceIte, reduceCtorEq, Nat.reduceEqDiff, Nat.reduceLT, Nat.reduceLeDiff, Int.reduceLT, Int.reduceLE, Nat.zero_add, Nat.reduceAdd, Bool.false_eq_true, decide_eq_true_eq, decide_eq_false_iff_not, true_implies, false_implies, and_true, true_and, hlt, decide_true, fldA1, fldA2, pFldA_ptr, Nat.zero_add, l1, l2, w1, w2, a1, a2, v_b4iw, alt3S_val, v_bs41, ps]
    have hslen : sl.length = k := by have := congrArg List.length hm; rw [List.length_map, tt_len] at this; exact this
    refine OL.push [⟨(t : Int), (k : Int), .slice q ln cp, bs, false⟩] ho.own hn rfl 48 (by decide) (by simp; omega) ?_
    intro vs' H1 o9 k9 g9 new9 n9
    simp only [ofArgs, run_seq, run_block, run_ops, run_skip, run_exit, run_ret, thenQ_normal, thenQ_exit, thenQ_ret, blockQ_normal, blockQ_exit, blockQ_ret, retQ_ret, retQ_normal, ops_nil, ops_none, got_some, ops_wT, ops_wTn, ops_wF, ops_wFn, ops_wU, dops_wT, dops_wTn, dops_wF, dops_wFn, dops_wU, run_condT, run_condF, alt2_int, altB_bool, altI_int, altBB_bool, v_min, v_max, v_not, v_neg, optEv_none, optEv_some, isSome'_none, isSome'_some, pExt0, pExt1, pExt2, Bool.false_and, Bool.true_and, Bool.not_true, Bool.not_false, cond_true, cond_false, dops_nil, dops_none, xval_call, v_mov, v_bin, v_len, v_ext, v_idxA, v_ld, v_st, v_app, v_appN, v_cvs, v_bs1, pBs1, v_slc, v_conv, v_fld, v_fldA, v_new, v_box, v_mks, v_copy, v_isnil, v_nilck, v_pick, ev, evs_nil, evs_cons, fr_get_cons, fr_put_nil, fr_put_cons, fr_put_some, fr_put_none, fr_keep_nil, fr_keep_cons, fr_has_nil, fr_has_cons, Option.bind_some, Option.map_some, xbin, ibin, xresult_eq, xress_nil, xress_tmp, resV, ex_some, if_true, if_false, ite_true, ite_false, reduceIte, reduceCtorEq, Nat.reduceEqDiff, Nat.reduceLT, Nat.reduceLeDiff, Int.reduceLT, Int.reduceLE, Nat.zero_add, Nat.reduceAdd, Bool.false_eq_true, decide_eq_true_eq, decide_eq_false_iff_not, true_implies, false_implies, and_true, true_and, w3]
    subst hL
    have hwvs : ∀ b, inB (Value.slice q ln cp) b → ¬ inB vs b := fun b h1 h2 => by have := hwb b h1; have := ho.own.ge h2; omega
    have e3 : ((k : Int) + 1) = ((k + 1 : Nat) : Int) := rfl
    rw [e3]
    refine ih (k + 1) (sl ++ [⟨(t : Int), (k : Int), .slice q ln cp, bs, false⟩]) vs' H1 Q (by omega) (hd.keep k9) ⟨o9, fun s hs => ?_, fun s hs b hb hv => ?_⟩ (by omega) (by rw [List.map_append, hm, tt_succ, hbs]; rfl) ?_
    · rcases List.mem_append.1 hs with h | h
      · exact Sl.same (ho.byt s h) n9 fun b hb => g9 b ((ho.byt s h).lt hb) (ho.dis s h b hb)
      · simp only [List.mem_singleton] at h
        subst h
        exact Sl.same hbw n9 fun b hb => g9 b (hbw.lt hb) (hwvs b hb)
    · rcases new9 b hv with h2 | h2
      · rcases List.mem_append.1 hs with h | h
        · exact ho.dis s h b hb h2
        · simp only [List.mem_singleton] at h
          subst h
          exact hwvs b hb h2
      · rcases List.mem_append.1 hs with h | h
        · have := (ho.byt s h).lt hb; omega
        · simp only [List.mem_singleton] at h
          subst h
          have := hbw.lt hb; omega
    · intro H2 vs2 sl2 o2 hm2 k2
      exact hq H2 vs2 sl2 o2 hm2 (k9.trans k2)

/-- a track as it is written -/
def TrOk (cell : Int) (L : List (List Int)) (S t : Nat) (x : List Int) : Prop := ∃ sl : List SD, sl.map told = tt L S t S ∧ x = pul cell (gaps (fullI (itemsL (fmtP sl)))).1
structure OutV (n0 : Nat) (H : AH) (v : Value) (l : List (Value × List Int)) : Prop where
  own : OL VSL n0 H v l
  ints : ∀ p ∈ l, Ints H p.1 p.2
  dis : ∀ p ∈ l, ∀ b, inB p.1 b → ¬ inB v b
theorem OutV.ext {n0 : Nat} {H H' : AH} {v : Value} {l : List (Value × List Int)} (h : OutV n0 H v l) (x : HExt H H') : OutV n0 H' v l := ⟨h.own.ext x, fun p hp => Sl.ext x (h.ints p hp), h.dis⟩
set_option maxHeartbeats 2000000 in
theorem trk_l1 (n0 E T S : Nat) (cell : Int) (hc : 2 ≤ cell) (hc2 : cell ≤ 1000) (vd : Value) (ld : List (Value × List Int)) (hT : T ≤ 20) (hS : S ≤ 12) (h8L : ∀ l ∈ ld.map (·.2), S8 l) (hTS : ld.length = T * S) (r : Nat) : ∀ (t : Nat) (vo : Value) (lt : List (Value × List Int)) (H : AH) (Q : XExit → Fr → AH → Prop), t + r = T → DkOk n0 E H T S vd ld → OutV n0 H vo lt → n0 ≤ H.n → lt.length = t → (∀ i p, lt[i]? = some p → TrOk cell (ld.map (·.2)) S i p.2) →
    (∀ H' vo' lt', OutV n0 H' vo' lt' → lt'.length = T → (∀ i p, lt'[i]? = some p → TrOk cell (ld.map (·.2)) S i p.2) → Keep n0 H H' → Q (.exit 0) [(1, .int .i64 cell), (2, .pointer (some ⟨E, 0, none⟩)), (7, vo'), (19, .int .i64 (T : Int)), (20, .int .i64 (T : Int)), (21, .bool false)] H') →
    Run Try.prog tab (.loop ximage_Tracks_l1) [(1, .int .i64 cell), (2, .pointer (some ⟨E, 0, none⟩)), (7, vo), (19, .int .i64 (T : Int)), (20, .int .i64 (t : Int))] H Q := by
  induction r with
  | zero =>
    intro t vo lt H Q ht hd ho hn hl htr hq
    have : t = T := by omega
    subst this
    rw [run_loop]
    generalize hL : XCode.loop ximage_Tracks_l1 = L
    have hf : ¬ (t : Int) < (t : Int) := by omega
    simp only [ximage_Tracks_l1, ofArgs, run_seq, run_block, run_ops, run_skip, run_exit, run_ret, thenQ_normal, thenQ_exit, thenQ_ret, blockQ_normal, blockQ_exit, blockQ_ret, retQ_ret, retQ_normal, ops_nil, ops_none, got_some, ops_wT, ops_wTn, ops_wF, ops_wFn, ops_wU, dops_wT, dops_wTn, dops_wF, dops_wFn, dops_wU, run_condT, run_condF, alt2_int, altB_bool, altI_int, altBB_bool, v_min, v_max, v_not, v_neg, optEv_none, optEv_some, isSome'_none, isSome'_some, pExt0, pExt1, pExt2, Bool.false_and, Bool.true_and, Bool.not_true, Bool.not_false, cond_true, cond_false, dops_nil, dops_none, xval_call, v_mov, v_bin, v_len, v_ext, v_idxA, v_ld, v_st, v_app, v_appN, v_cvs, v_bs1, pBs1, v_slc, v_conv, v_fld, v_fldA, v_new, v_box, v_mks, v_copy, v_isnil, v_nilck, v_pick, ev, evs_nil, evs_cons, fr_get_cons, fr_put_nil, fr_put_cons, fr_put_some, fr_put_none, fr_keep_nil, fr_keep_cons, fr_has_nil, fr_has_cons, Option.bind_some, Option.map_some, xbin, ibin, xresult_eq, xress_nil, xress_tmp, resV, ex_some, if_true, if_false, ite_true, ite_false, reduceIte, reduceCtorEq, Nat.reduceEqDiff, Nat.reduceLT, Nat.reduceLeDiff, Int.reduceLT, Int.reduceLE, Nat.zero_add, Nat.reduceAdd, Bool.false_eq_true, decide_eq_true_eq, decide_eq_false_iff_not, true_implies, false_implies, and_true, true_and, hf, decide_false]
    exact hq H vo lt ho hl htr (.refl _ _)
  | succ r ih =>
    intro t vo lt H Q ht hd ho hn hl htr hq
    rw [run_loop]
    generalize hL : XCode.loop ximage_Tracks_l1 = L
    have hlt : (t : Int) < (T : Int) := by omega
    have l1 := ld3_1 hd.box
    have hb : t * S + S ≤ ld.length := by
      have := Nat.mul_le_mul_right S (by omega : t + 1 ≤ T)
      rw [Nat.add_mul, Nat.one_mul] at this
      omega
    have j0 : ((0 : Nat) : Int) = 0 := rfl
    simp only [ximage_Tracks_l1, ofArgs, run_seq, run_block, run_ops, run_skip, run_exit, run_ret, thenQ_normal, thenQ_exit, thenQ_ret, blockQ_normal, blockQ_exit, blockQ_ret, retQ_ret, retQ_normal, ops_nil, ops_none, got_some, ops_wT, ops_wTn, ops_wF, ops_wFn, ops_wU, dops_wT, dops_wTn, dops_wF, dops_wFn, dops_wU, run_condT, run_condF, alt2_int, altB_bool, altI_int, altBB_bool, v_min, v_max, v_not, v_neg, optEv_none, optEv_some, isSome'_none, isSome'_some, pExt0, pExt1, pExt2, Bool.false_and, Bool.true_and, Bool.not_true, Bool.not_false, cond_true, cond_false, dops_nil, dops_none, xval_call, v_mov, v_bin, v_len, v_ext, v_idxA, v_ld, v_st, v_app, v_appN, v_cvs, v_bs1, pBs1, v_slc, v_conv, v_fld, v_fldA, v_new, v_box, v_mks, v_copy, v_isnil, v_nilck, v_pick, ev, evs_nil, evs_cons, fr_get_cons, fr_put_nil, fr_put_cons, fr_put_some, fr_put_none, fr_keep_nil, fr_keep_cons, fr_has_nil, fr_has_cons, Option.bind_some, Option.map_some, xbin, ibin, xresult_eq, xress_nil, xress_tmp, resV, ex_some, if_true, if_false, ite_true, ite_false, reduceIte, reduceCtorEq, Nat.reduceEqDiff, Nat.reduceLT, Nat.reduceLeDiff, Int.reduceLT, Int.reduceLE, Nat.zero_add, Nat.reduceAdd, Bool.false_eq_true, decide_eq_true_eq, decide_eq_false_iff_not, true_implies, false_implies, and_true, true_and, hlt, decide_true, fldA1, l1]
    have tl := fun Q => trk_l0 H.n E T S t (.int .i64 cell) vo vd (T : Int) (t : Int) ld (by omega) hS hb S 0 [] (.slice none 0 0) H Q (by omega) (hd.le hn) (OutD.nil _ _) (Nat.le_refl _) rfl
    rw [j0] at tl
    refine tl _ ?_
    intro H1 vs sl o1 hm k1
    have x1 : HExt H H1 := k1
    have sok := tt_ok _ S t h8L (by omega) hS (by rw [List.length_map]; exact hb) sl hm
    have hsl : sl.length = S := by have := congrArg List.length hm; rw [List.length_map, tt_len] at this; exact this
    simp only [ofArgs, run_seq, run_block, run_ops, run_skip, run_exit, run_ret, thenQ_normal, thenQ_exit, thenQ_ret, blockQ_normal, blockQ_exit, blockQ_ret, retQ_ret, retQ_normal, ops_nil, ops_none, got_some, ops_wT, ops_wTn, ops_wF, ops_wFn, ops_wU, dops_wT, dops_wTn, dops_wF, dops_wFn, dops_wU, run_condT, run_condF, alt2_int, altB_bool, altI_int, altBB_bool, v_min, v_max, v_not, v_neg, optEv_none, optEv_some, isSome'_none, isSome'_some, pExt0, pExt1, pExt2, Bool.false_and, Bool.true_and, Bool.not_true, Bool.not_false, cond_true, cond_false, dops_nil, dops_none, xval_call, v_mov, v_bin, v_len, v_ext, v_idxA, v_ld, v_st, v_app, v_appN, v_cvs, v_bs1, pBs1, v_slc, v_conv, v_fld, v_fldA, v_new, v_box, v_mks, v_copy, v_isnil, v_nilck, v_pick, ev, evs_nil, evs_cons, fr_get_cons, fr_put_nil, fr_put_cons, fr_put_some, fr_put_none, fr_keep_nil, fr_keep_cons, fr_has_nil, fr_has_cons, Option.bind_some, Option.map_some, xbin, ibin, xresult_eq, xress_nil, xress_tmp, resV, ex_some, if_true, if_false, ite_true, ite_false, reduceIte, reduceCtorEq, Nat.reduceEqDiff, Nat.reduceLT, Nat.reduceLeDiff, Int.reduceLT, Int.reduceLE, Nat.zero_add, Nat.reduceAdd, Bool.false_eq_true, decide_eq_true_eq, decide_eq_false_iff_not, true_implies, false_implies, and_true, true_and]
    refine format_ok (t : Int) (by omega) (by omega) sl vs cell H1 _ o1.sds sok (by omega) hc hc2 ?_
    intro vt H2 ot x2
    obtain ⟨q, ln, cp, hvt⟩ := slice_form ot.1
    have hit : Ints H2 vt _ := ot.1
    have hge : ∀ b, inB vt b → H1.n ≤ b := fun b ⟨o, l, c, e⟩ => (ot.2 b o l c e).1
    subst hvt
    have w3 := wrI ((t : Int) + 1) (by omega) (by omega)
    have x12 := x1.trans x2
    have ho2 := ho.ext x12
    have hvol : ∀ b, inB vo b → b < H.n := fun b hb => ho.own.1.lt hb
    have n12 := x12.1
    have ps : ∀ H, pBs1 (.slice q ln cp) H = some (.slice (some ⟨H.n, 0, none⟩) 1 1, H.push ⟨[.slice q ln cp], 1, false, false⟩) := fun H => rfl
    have z0 : ((0 : Int) != 0) = false := rfl
    simp only [ofArgs, run_seq, run_block, run_ops, run_skip, run_exit, run_ret, thenQ_normal, thenQ_exit, thenQ_ret, blockQ_normal, blockQ_exit, blockQ_ret, retQ_ret, retQ_normal, ops_nil, ops_none, got_some, ops_wT, ops_wTn, ops_wF, ops_wFn, ops_wU, dops_wT, dops_wTn, dops_wF, dops_wFn, dops_wU, run_condT, run_condF, alt2_int, altB_bool, altI_int, altBB_bool, v_min, v_max, v_not, v_neg, optEv_none, optEv_some, isSome'_none, isSome'_some, pExt0, pExt1, pExt2, Bool.false_and, Bool.true_and, Bool.not_true, Bool.not_false, cond_true, cond_false, dops_nil, dops_none, xval_call, v_mov, v_bin, v_len, v_ext, v_idxA, v_ld, v_st, v_app, v_appN, v_cvs, v_bs1, pBs1, v_slc, v_conv, v_fld, v_fldA, v_new, v_box, v_mks, v_copy, v_isnil, v_nilck, v_pick, ev, evs_nil, evs_cons, fr_get_cons, fr_put_nil, fr_put_cons, fr_put_some, fr_put_none, fr_keep_nil, fr_keep_cons, fr_has_nil, fr_has_cons, Option.bind_some, Option.map_some, xbin, ibin, xresult_eq, xress_nil, xress_tmp, resV, ex_some, if_true, if_false, ite_true, ite_false, reduceIte, reduceCtorEq, Nat.reduceEqDiff, Nat.reduceLT, Nat.reduceLeDiff, Int.reduceLT, Int.reduceLE, Nat.zero_add, Nat.reduceAdd, Bool.false_eq_true, decide_eq_true_eq, decide_eq_false_iff_not, true_implies, false_implies, and_true, true_and, pExt0, pExt1, z0, ps]
    refine OL.push (S := VSL) [((.slice q ln cp : Value), pul cell (gaps (fullI (itemsL (fmtP sl)))).1)] ho2.own (by omega) rfl 24 (by decide) (by simp; omega) ?_
    intro vo' H3 o3 k3 g3 new3 n3
    simp only [ofArgs, run_seq, run_block, run_ops, run_skip, run_exit, run_ret, thenQ_normal, thenQ_exit, thenQ_ret, blockQ_normal, blockQ_exit, blockQ_ret, retQ_ret, retQ_normal, ops_nil, ops_none, got_some, ops_wT, ops_wTn, ops_wF, ops_wFn, ops_wU, dops_wT, dops_wTn, dops_wF, dops_wFn, dops_wU, run_condT, run_condF, alt2_int, altB_bool, altI_int, altBB_bool, v_min, v_max, v_not, v_neg, optEv_none, optEv_some, isSome'_none, isSome'_some, pExt0, pExt1, pExt2, Bool.false_and, Bool.true_and, Bool.not_true, Bool.not_false, cond_true, cond_false, dops_nil, dops_none, xval_call, v_mov, v_bin, v_len, v_ext, v_idxA, v_ld, v_st, v_app, v_appN, v_cvs, v_bs1, pBs1, v_slc, v_conv, v_fld, v_fldA, v_new, v_box, v_mks, v_copy, v_isnil, v_nilck, v_pick, ev, evs_nil, evs_cons, fr_get_cons, fr_put_nil, fr_put_cons, fr_put_some, fr_put_none, fr_keep_nil, fr_keep_cons, fr_has_nil, fr_has_cons, Option.bind_some, Option.map_some, xbin, ibin, xresult_eq, xress_nil, xress_tmp, resV, ex_some, if_true, if_false, ite_true, ite_false, reduceIte, reduceCtorEq, Nat.reduceEqDiff, Nat.reduceLT, Nat.reduceLeDiff, Int.reduceLT, Int.reduceLE, Nat.zero_add, Nat.reduceAdd, Bool.false_eq_true, decide_eq_true_eq, decide_eq_false_iff_not, true_implies, false_implies, and_true, true_and, w3]
    subst hL
    have hvv : ∀ b, inB (Value.slice q ln cp) b → ¬ inB vo b := fun b h1 h2 => by have := hge b h1; have := hvol b h2; have := x1.1; omega
    have kk : Keep n0 H H3 := Keep.trans (HExt.keep x12 hn) k3
    have e3 : ((t : Int) + 1) = ((t + 1 : Nat) : Int) := rfl
    rw [e3]
    refine ih (t + 1) vo' (lt ++ [((.slice q ln cp : Value), pul cell (gaps (fullI (itemsL (fmtP sl)))).1)]) H3 Q (by omega) (hd.keep kk) ⟨o3, fun p hp => ?_, fun p hp b hb hv => ?_⟩ (by have := kk.1; omega) (by simp; omega) (fun i p hp => ?_) ?_
    · rcases List.mem_append.1 hp with h | h
      · exact Sl.same (ho2.ints p h) n3 fun b hb => g3 b (Sl.lt (ho2.ints p h) hb) (ho.dis p h b hb)
      · simp only [List.mem_singleton] at h
        subst h
        exact Sl.same hit n3 fun b hb => g3 b (Sl.lt hit hb) (hvv b hb)
    · rcases new3 b hv with h2 | h2
      · rcases List.mem_append.1 hp with h | h
        · exact ho.dis p h b hb h2
        · simp only [List.mem_singleton] at h
          subst h
          exact hvv b hb h2
      · rcases List.mem_append.1 hp with h | h
        · have := Sl.lt (ho2.ints p h) hb; omega
        · simp only [List.mem_singleton] at h
          subst h
          have := Sl.lt hit hb; omega
    · by_cases hi : i < lt.length
      · rw [List.getElem?_append_left hi] at hp
        exact htr i p hp
      · rw [List.getElem?_append_right (by omega)] at hp
        by_cases h0 : i - lt.length = 0
        · rw [h0] at hp
          simp only [List.getElem?_cons_zero, Option.some.injEq] at hp
          subst hp
          have : i = t := by omega
          subst this
          exact ⟨sl, hm, rfl⟩
        · rw [List.getElem?_eq_none (by simp; omega)] at hp
          cases hp
    · intro H4 vo4 lt4 o4 l4 tr4 k4
      exact hq H4 vo4 lt4 o4 l4 tr4 (kk.trans k4)
end Go.Proofs.Ytejedmocjdcdgaa.D

set_option linter.unusedSimpArgs false
set_option linter.unusedVariables false
namespace Go.Proofs.Ytejedmocjdcdgaa.D
open Go Go.Det

set_option maxHeartbeats 2000000 in
theorem tracks_ok (T S : Nat) (cell : Int) (hc : 2 ≤ cell) (hc2 : cell ≤ 1000) (vd : Value) (ld : List (Value × List Int)) (hT1 : 1 ≤ T) (hT : T ≤ 20) (hS1 : 1 ≤ S) (hS : S ≤ 12) (h8L : ∀ l ∈ ld.map (·.2), S8 l) (hTS : ld.length = T * S) (H : AH) (Q : Value → AH → Prop) (hss : SSb H vd ld) (hsec : Secs H vd (ld.map (·.2)))
    (hq : ∀ H' vo lt, OutV H.n H' vo lt → lt.length = T → (∀ i p, lt[i]? = some p → TrOk cell (ld.map (·.2)) S i p.2) → HExt H H' → Q (.tuple [vo, .int .i64 0].toArray) H') : Got (xc Try.prog tab 56 [.agg #[.int .i64 (T : Int), .int .i64 (S : Int), vd], .int .i64 cell] H) Q := by
  refine got_call (res := [.tmp 4, .tmp 5]) rfl ?_
  have vc : vcells (.agg #[.int .i64 (T : Int), .int .i64 (S : Int), vd]) = [.int .i64 (T : Int), .int .i64 (S : Int), vd] := rfl
  have x1 := hext_push H ⟨[.int .i64 (T : Int), .int .i64 (S : Int), vd], 1, false, false⟩
  have n1 : (H.push ⟨[.int .i64 (T : Int), .int .i64 (S : Int), vd], 1, false, false⟩).n = H.n + 1 := rfl
  have g1 : (H.push ⟨[.int .i64 (T : Int), .int .i64 (S : Int), vd], 1, false, false⟩).get H.n = some ⟨[.int .i64 (T : Int), .int .i64 (S : Int), vd], 1, false, false⟩ := by rw [AH.get_push, if_pos rfl]
  have e3 := ld3 g1
  generalize hT0 : ((.seq (.ops [⟨some 7, .mov (.const (.slice none 0 0)), none⟩] [1, 2, 7]) (.seq (.seq (.ops [⟨some 18, .fldA 0 (.tmp 2), none⟩, ⟨some 19, .ld none (.tmp 18), none⟩, ⟨some 20, .mov (.const (.int .i64 0)), none⟩] [1, 2, 7, 19, 20]) (.block 0 (.loop ximage_Tracks_l1))) (.seq (.ops [⟨some 60, .mov (.tmp 7), none⟩, ⟨some 4, .mov (.tmp 60), none⟩, ⟨some 5, .mov (.const (.int .i64 0)), none⟩] [4, 5]) .ret))) : XCode) = TT
  simp only [ofArgs, run_seq, run_block, run_ops, run_skip, run_exit, run_ret, thenQ_normal, thenQ_exit, thenQ_ret, blockQ_normal, blockQ_exit, blockQ_ret, retQ_ret, retQ_normal, ops_nil, ops_none, got_some, ops_wT, ops_wTn, ops_wF, ops_wFn, ops_wU, dops_wT, dops_wTn, dops_wF, dops_wFn, dops_wU, run_condT, run_condF, alt2_int, altB_bool, altI_int, altBB_bool, v_min, v_max, v_not, v_neg, optEv_none, optEv_some, isSome'_none, isSome'_some, pExt0, pExt1, pExt2, Bool.false_and, Bool.true_and, Bool.not_true, Bool.not_false, cond_true, cond_false, dops_nil, dops_none, xval_call, v_mov, v_bin, v_len, v_ext, v_idxA, v_ld, v_st, v_app, v_appN, v_cvs, v_bs1, pBs1, v_slc, v_conv, v_fld, v_fldA, v_new, v_box, v_mks, v_copy, v_isnil, v_nilck, v_pick, ev, evs_nil, evs_cons, fr_get_cons, fr_put_nil, fr_put_cons, fr_put_some, fr_put_none, fr_keep_nil, fr_keep_cons, fr_has_nil, fr_has_cons, Option.bind_some, Option.map_some, xbin, ibin, xresult_eq, xress_nil, xress_tmp, resV, ex_some, if_true, if_false, ite_true, ite_false, reduceIte, reduceCtorEq, Nat.reduceEqDiff, Nat.reduceLT, Nat.reduceLeDiff, Int.reduceLT, Int.reduceLE, Nat.zero_add, Nat.reduceAdd, Bool.false_eq_true, decide_eq_true_eq, decide_eq_false_iff_not, true_implies, false_implies, and_true, true_and, vc, e3]
  generalize H.push ⟨[.int .i64 (T : Int), .int .i64 (S : Int), vd], 1, false, false⟩ = H1 at *
  refine imcheck_ok (T : Int) (S : Int) vd H1 _ _ (hsec.ext x1) (fun l hl => (h8L l hl).1) (by omega) (by omega) (by omega) (by omega) (by rw [List.length_map, hTS, Int.natCast_mul]) ?_
  intro H2 x2
  have z0 : ((0 : Int) != 0) = false := rfl
  have g2 := (x2.2 H.n (by omega)).trans g1
  have l0 := ld3_0 g2
  have x12 := x1.trans x2
  have n2 := x2.1
  have dk : DkOk (H.n + 1) H.n H2 T S vd ld := ⟨g2, by omega, hss.ext x12, fun b hb => by have := Sl.lt hss.1 hb; omega, fun p hp b hb => by have := Sl.lt (hss.2 p hp) hb; omega⟩
  subst hT0
  generalize hT0 : ((.seq (.ops [⟨some 60, .mov (.tmp 7), none⟩, ⟨some 4, .mov (.tmp 60), none⟩, ⟨some 5, .mov (.const (.int .i64 0)), none⟩] [4, 5]) .ret) : XCode) = TT
  simp only [ofArgs, run_seq, run_block, run_ops, run_skip, run_exit, run_ret, thenQ_normal, thenQ_exit, thenQ_ret, blockQ_normal, blockQ_exit, blockQ_ret, retQ_ret, retQ_normal, ops_nil, ops_none, got_some, ops_wT, ops_wTn, ops_wF, ops_wFn, ops_wU, dops_wT, dops_wTn, dops_wF, dops_wFn, dops_wU, run_condT, run_condF, alt2_int, altB_bool, altI_int, altBB_bool, v_min, v_max, v_not, v_neg, optEv_none, optEv_some, isSome'_none, isSome'_some, pExt0, pExt1, pExt2, Bool.false_and, Bool.true_and, Bool.not_true, Bool.not_false, cond_true, cond_false, dops_nil, dops_none, xval_call, v_mov, v_bin, v_len, v_ext, v_idxA, v_ld, v_st, v_app, v_appN, v_cvs, v_bs1, pBs1, v_slc, v_conv, v_fld, v_fldA, v_new, v_box, v_mks, v_copy, v_isnil, v_nilck, v_pick, ev, evs_nil, evs_cons, fr_get_cons, fr_put_nil, fr_put_cons, fr_put_some, fr_put_none, fr_keep_nil, fr_keep_cons, fr_has_nil, fr_has_cons, Option.bind_some, Option.map_some, xbin, ibin, xresult_eq, xress_nil, xress_tmp, resV, ex_some, if_true, if_false, ite_true, ite_false, reduceIte, reduceCtorEq, Nat.reduceEqDiff, Nat.reduceLT, Nat.reduceLeDiff, Int.reduceLT, Int.reduceLE, Nat.zero_add, Nat.reduceAdd, Bool.false_eq_true, decide_eq_true_eq, decide_eq_false_iff_not, true_implies, false_implies, and_true, true_and, z0, fldA0, l0]
  have tl := fun Q => trk_l1 (H.n + 1) H.n T S cell hc hc2 vd ld hT hS h8L hTS T 0 (.slice none 0 0) [] H2 Q (by omega) dk ⟨OL.nil _ _ _, fun p hp => by simp at hp, fun p hp => by simp at hp⟩ (by omega) rfl (fun i p hp => by simp at hp)
  have j0 : ((0 : Nat) : Int) = 0 := rfl
  rw [j0] at tl
  refine tl _ ?_
  intro H3 vo lt o3 l3 tr3 k3
  subst hT0
  simp only [ofArgs, run_seq, run_block, run_ops, run_skip, run_exit, run_ret, thenQ_normal, thenQ_exit, thenQ_ret, blockQ_normal, blockQ_exit, blockQ_ret, retQ_ret, retQ_normal, ops_nil, ops_none, got_some, ops_wT, ops_wTn, ops_wF, ops_wFn, ops_wU, dops_wT, dops_wTn, dops_wF, dops_wFn, dops_wU, run_condT, run_condF, alt2_int, altB_bool, altI_int, altBB_bool, v_min, v_max, v_not, v_neg, optEv_none, optEv_some, isSome'_none, isSome'_some, pExt0, pExt1, pExt2, Bool.false_and, Bool.true_and, Bool.not_true, Bool.not_false, cond_true, cond_false, dops_nil, dops_none, xval_call, v_mov, v_bin, v_len, v_ext, v_idxA, v_ld, v_st, v_app, v_appN, v_cvs, v_bs1, pBs1, v_slc, v_conv, v_fld, v_fldA, v_new, v_box, v_mks, v_copy, v_isnil, v_nilck, v_pick, ev, evs_nil, evs_cons, fr_get_cons, fr_put_nil, fr_put_cons, fr_put_some, fr_put_none, fr_keep_nil, fr_keep_cons, fr_has_nil, fr_has_cons, Option.bind_some, Option.map_some, xbin, ibin, xresult_eq, xress_nil, xress_tmp, resV, ex_some, if_true, if_false, ite_true, ite_false, reduceIte, reduceCtorEq, Nat.reduceEqDiff, Nat.reduceLT, Nat.reduceLeDiff, Int.reduceLT, Int.reduceLE, Nat.zero_add, Nat.reduceAdd, Bool.false_eq_true, decide_eq_true_eq, decide_eq_false_iff_not, true_implies, false_implies, and_true, true_and]
  exact hq H3 vo lt ⟨o3.own.le (by omega), o3.ints, o3.dis⟩ l3 tr3 (Keep.trans (n0 := H.n) x12 (k3.le (by omega)))

/-! ### a track's sectors in order -/
def tkt (l : List SD) : List (Value × List Int) := l.map fun s => (s.w, s.bs)
theorem isnil0 : xisnil (.slice none 0 0) (.slice none 0 0) = some true := rfl
set_option maxHeartbeats 4000000 in
theorem track_l0 (n0 : Nat) (t S : Nat) (hS : S ≤ 12) (ht : t ≤ 20) (L : List (List Int)) (v vb : Value) (rest : List SD) : ∀ (pre : List SD) (H : AH) (Q : XExit → Fr → AH → Prop), SDs H v (pre ++ rest) → (∀ b, inB v b → b < n0) → (∀ s ∈ pre ++ rest, ∀ b, inB s.w b → b < n0) → (pre ++ rest).map told = tt L S t S → OL VSL n0 H vb (tkt pre ++ List.replicate rest.length ((.slice none 0 0 : Value), ([] : List Int))) → n0 ≤ H.n →
    (∀ H', OL VSL n0 H' vb (tkt (pre ++ rest)) → Keep n0 H H' → Q (.exit 0) [(0, .int .i64 (t : Int)), (2, .int .i64 (S : Int)), (8, vb), (13, v), (14, .int .i64 (S : Int)), (15, .int .i64 (S : Int)), (16, .bool false)] H') →
    Run Try.prog tab (.loop ximage_track_l0) [(0, .int .i64 (t : Int)), (2, .int .i64 (S : Int)), (8, vb), (13, v), (14, .int .i64 (S : Int)), (15, .int .i64 (pre.length : Int))] H Q := by
  induction rest with
  | nil =>
    intro pre H Q hv hvb hwb hm ho hn hq
    have hl : pre.length = S := by have := congrArg List.length hm; rw [List.length_map, tt_len] at this; simpa using this
    rw [run_loop]
    generalize hL : XCode.loop ximage_track_l0 = LL
    rw [hl]
    have hf : ¬ (S : Int) < (S : Int) := by omega
    simp only [ximage_track_l0, ofArgs, run_seq, run_block, run_ops, run_skip, run_exit, run_ret, thenQ_normal, thenQ_exit, thenQ_ret, blockQ_normal, blockQ_exit, blockQ_ret, retQ_ret, retQ_normal, ops_nil, ops_none, got_some, ops_wT, ops_wTn, ops_wF, ops_wFn, ops_wU, dops_wT, dops_wTn, dops_wF, dops_wFn, dops_wU, run_condT, run_condF, alt2_int, altB_bool, altI_int, altBB_bool, v_min, v_max, v_not, v_neg, optEv_none, optEv_some, isSome'_none, isSome'_some, pExt0, pExt1, pExt2, Bool.false_and, Bool.true_and, Bool.not_true, Bool.not_false, cond_true, cond_false, dops_nil, dops_none, xval_call, v_mov, v_bin, v_len, v_ext, v_idxA, v_ld, v_st, v_app, v_appN, v_cvs, v_bs1, pBs1, v_slc, v_conv, v_fld, v_fldA, v_new, v_box, v_mks, v_copy, v_isnil, v_nilck, v_pick, ev, evs_nil, evs_cons, fr_get_cons, fr_put_nil, fr_put_cons, fr_put_some, fr_put_none, fr_keep_nil, fr_keep_cons, fr_has_nil, fr_has_cons, Option.bind_some, Option.map_some, xbin, ibin, xresult_eq, xress_nil, xress_tmp, resV, ex_some, if_true, if_false, ite_true, ite_false, reduceIte, reduceCtorEq, Nat.reduceEqDiff, Nat.reduceLT, Nat.reduceLeDiff, Int.reduceLT, Int.reduceLE, Nat.zero_add, Nat.reduceAdd, Bool.false_eq_true, decide_eq_true_eq, decide_eq_false_iff_not, true_implies, false_implies, and_true, true_and, hf, decide_false]
    exact hq H (by simpa [tkt] using ho) (.refl _ _)
  | cons s rest ih =>
    intro pre H Q hv hvb hwb hm ho hn hq
    have hl : pre.length + 1 + rest.length = S := by have := congrArg List.length hm; rw [List.length_map, tt_len] at this; simp at this; omega
    rw [run_loop]
    generalize hL : XCode.loop ximage_track_l0 = LL
    have hlt : (pre.length : Int) < (S : Int) := by omega
    have e1 := sds_idx hv (pre.length : Int) rfl
    have e2 := sds_ld hv
    have hbp := hv.2 s (by simp)
    have hswb : ∀ b, inB s.w b → b < n0 := hwb s (by simp)
    obtain ⟨o1, o2⟩ := slice_one hbp
    have st := bxS_st H s o1
    have hx := bxS_ext H s
    have g := bxS_get H s
    have nn := bxS_n H s
    have l0 := bx4_0 g
    have l1 := bx4_1 g
    have l2 := bx4_2 g
    have l3 := bx4_3 g
    have hts : told s = ((t : Int), (pre.length : Int), L.getD (t * S + pre.length) [], false) := by
      have h1 : ((pre ++ s :: rest).map told)[pre.length]? = some (told s) := by simp
      rw [hm] at h1
      unfold tt at h1
      simp only [List.getElem?_map, List.getElem?_range (by omega : pre.length < S), Option.map_some, Option.some.injEq] at h1
      exact h1.symm
    simp only [told, Prod.mk.injEq] at hts
    obtain ⟨ht1, ht2, ht3, ht4⟩ := hts
    rw [ht1] at l0
    rw [ht2] at l1
    rw [ht4] at l3
    have ho1 : OL VSL n0 (bxS H s) vb (tkt pre ++ List.replicate (rest.length + 1) ((.slice none 0 0 : Value), ([] : List Int))) := ho.ext hx
    obtain ⟨a1, a2⟩ := vsl_at ho1.1 (pre.length : Int) pre.length rfl ((.slice none 0 0 : Value), ([] : List Int)) (by rw [List.getElem?_append_right (by simp [tkt])]; simp [tkt])
    have c1 : ¬ (pre.length : Int) ≥ (S : Int) := by omega
    have c2 : (((t : Nat) : Int) != (t : Int)) = false := by simp
    have w3 : IntKind.i64.wrap ((pre.length : Int) + 1) = ((pre ++ [s]).length : Int) := by rw [wrI _ (by omega) (by omega)]; simp
    simp only [ximage_track_l0, ofArgs, run_seq, run_block, run_ops, run_skip, run_exit, run_ret, thenQ_normal, thenQ_exit, thenQ_ret, blockQ_normal, blockQ_exit, blockQ_ret, retQ_ret, retQ_normal, ops_nil, ops_none, got_some, ops_wT, ops_wTn, ops_wF, ops_wFn, ops_wU, dops_wT, dops_wTn, dops_wF, dops_wFn, dops_wU, run_condT, run_condF, alt2_int, altB_bool, altI_int, altBB_bool, v_min, v_max, v_not, v_neg, optEv_none, optEv_some, isSome'_none, isSome'_some, pExt0, pExt1, pExt2, Bool.false_and, Bool.true_and, Bool.not_true, Bool.not_false, cond_true, cond_false, dops_nil, dops_none, xval_call, v_mov, v_bin, v_len, v_ext, v_idxA, v_ld, v_st, v_app, v_appN, v_cvs, v_bs1, pBs1, v_slc, v_conv, v_fld, v_fldA, v_new, v_box, v_mks, v_copy, v_isnil, v_nilck, v_pick, ev, evs_nil, evs_cons, fr_get_cons, fr_put_nil, fr_put_cons, fr_put_some, fr_put_none, fr_keep_nil, fr_keep_cons, fr_has_nil, fr_has_cons, Option.bind_some, Option.map_some, xbin, ibin, xresult_eq, xress_nil, xress_tmp, resV, ex_some, if_true, if_false, ite_true, ite_false, reduceIte, reduceCtorEq, Nat.reduceEqDiff, Nat.reduceLT, Nat.reduceLeDiff, Int.reduceLT, Int.reduceLE, Nat.zero_add, Nat.reduceAdd, Bool.false_eq_true, decide_eq_true_eq, decide_eq_false_iff_not, true_implies, false_implies, and_true, true_and, hlt, decide_true, e1, e2, st, fldA0, fldA1, fldA2, fldA3, l0, l1, l2, l3, a1, a2, c1, c2, decide_false, isnil0, Bool.not_true, Bool.not_false]
    have own1 : Own n0 1 (bxS H s) vb (tkt pre ++ List.replicate (rest.length + 1) ((.slice none 0 0 : Value), ([] : List Int))).length ((tkt pre ++ List.replicate (rest.length + 1) ((.slice none 0 0 : Value), ([] : List Int))).map (·.1)) := by have := ho1; unfold OL at this; rw [vsl_cells] at this; exact this
    refine pSt_own own1 (by simp [tkt]) o1 o2 ?_
    intro H2 o2' st2
    have k2 := st2.keep own1 (by omega)
    have kk : Keep n0 H H2 := Keep.trans (HExt.keep hx hn) k2
    simp only [ofArgs, run_seq, run_block, run_ops, run_skip, run_exit, run_ret, thenQ_normal, thenQ_exit, thenQ_ret, blockQ_normal, blockQ_exit, blockQ_ret, retQ_ret, retQ_normal, ops_nil, ops_none, got_some, ops_wT, ops_wTn, ops_wF, ops_wFn, ops_wU, dops_wT, dops_wTn, dops_wF, dops_wFn, dops_wU, run_condT, run_condF, alt2_int, altB_bool, altI_int, altBB_bool, v_min, v_max, v_not, v_neg, optEv_none, optEv_some, isSome'_none, isSome'_some, pExt0, pExt1, pExt2, Bool.false_and, Bool.true_and, Bool.not_true, Bool.not_false, cond_true, cond_false, dops_nil, dops_none, xval_call, v_mov, v_bin, v_len, v_ext, v_idxA, v_ld, v_st, v_app, v_appN, v_cvs, v_bs1, pBs1, v_slc, v_conv, v_fld, v_fldA, v_new, v_box, v_mks, v_copy, v_isnil, v_nilck, v_pick, ev, evs_nil, evs_cons, fr_get_cons, fr_put_nil, fr_put_cons, fr_put_some, fr_put_none, fr_keep_nil, fr_keep_cons, fr_has_nil, fr_has_cons, Option.bind_some, Option.map_some, xbin, ibin, xresult_eq, xress_nil, xress_tmp, resV, ex_some, if_true, if_false, ite_true, ite_false, reduceIte, reduceCtorEq, Nat.reduceEqDiff, Nat.reduceLT, Nat.reduceLeDiff, Int.reduceLT, Int.reduceLE, Nat.zero_add, Nat.reduceAdd, Bool.false_eq_true, decide_eq_true_eq, decide_eq_false_iff_not, true_implies, false_implies, and_true, true_and, w3]
    subst hL
    have elist : (tkt (pre ++ [s]) ++ List.replicate rest.length ((.slice none 0 0 : Value), ([] : List Int))) = (tkt pre ++ List.replicate (rest.length + 1) ((.slice none 0 0 : Value), ([] : List Int))).set pre.length (s.w, s.bs) := by
      have : pre.length = (tkt pre).length := by simp [tkt]
      rw [this, List.set_append_right _ _ (Nat.le_refl _), Nat.sub_self]
      simp [tkt, List.replicate_succ]
    have o3 : OL VSL n0 H2 vb (tkt (pre ++ [s]) ++ List.replicate rest.length ((.slice none 0 0 : Value), ([] : List Int))) := by
      unfold OL
      rw [vsl_cells, elist, List.length_set, List.map_set]
      exact o2'
    refine ih (pre ++ [s]) H2 Q ⟨by rw [← List.append_cons]; exact Sl.keep kk hv.1 hvb, by rw [← List.append_cons]; exact fun y hy => Sl.keep kk (hv.2 y hy) (hwb y hy)⟩ hvb (by rw [← List.append_cons]; exact hwb) (by rw [← List.append_cons]; exact hm) o3 (by have := kk.1; omega) ?_
    intro H3 o4 k4
    rw [← List.append_cons] at o4
    exact hq H3 o4 (kk.trans k4)
theorem pMksN (k : Nat) (hk : k ≤ 1000) (H : AH) : pMks 1 24 [.slice none 0 0] (.int .i64 (k : Int)) (.int .i64 (k : Int)) H = some (.slice (some ⟨H.n, 0, none⟩) k k, H.push ⟨rep k [.slice none 0 0], 1, false, false⟩) := by
  show (bif Nat.ble k k && Nat.ble (k * 24) 140737488355328 && Nat.ble k 140737488355328 then _ else none) = _
  rw [ble_of (Nat.le_refl k), ble_of (by omega : k * 24 ≤ 140737488355328), ble_of (by omega : k ≤ 140737488355328)]
  rfl
theorem imtrack_ok (t S : Nat) (hS : S ≤ 12) (ht : t ≤ 20) (L : List (List Int)) (v : Value) (l : List SD) (H : AH) (Q : Value → AH → Prop) (hv : SDs H v l) (hm : l.map told = tt L S t S)
    (hq : ∀ vb H', OL VSL H.n H' vb (tkt l) → HExt H H' → Q (.tuple [vb, .int .i64 0].toArray) H') : Got (xc Try.prog tab 111 [.int .i64 (t : Int), v, .int .i64 (S : Int)] H) Q := by
  refine got_call (res := [.tmp 6, .tmp 7]) rfl ?_
  have hl : l.length = S := by have := congrArg List.length hm; rw [List.length_map, tt_len] at this; exact this
  have hmk := pMksN S (by omega) H
  have x1 := hext_push H ⟨rep S [.slice none 0 0], 1, false, false⟩
  have n1 : (H.push ⟨rep S [.slice none 0 0], 1, false, false⟩).n = H.n + 1 := rfl
  have ob : OL VSL H.n (H.push ⟨rep S [.slice none 0 0], 1, false, false⟩) (.slice (some ⟨H.n, 0, none⟩) S S) (tkt [] ++ List.replicate l.length ((.slice none 0 0 : Value), ([] : List Int))) := by
    have hp := Own.pushed H (rep S [.slice none 0 0]) 1 S false (by rw [rep_length]; simp)
    unfold OL
    rw [vsl_cells]
    rw [rep_one] at hp ⊢
    simpa [tkt, hl, show VSL.sz = 1 from rfl] using hp
  have hv1 := hv.ext x1
  have e0 : pLen v (H.push ⟨rep S [.slice none 0 0], 1, false, false⟩) = some (.int .i64 (l.length : Int), H.push ⟨rep S [.slice none 0 0], 1, false, false⟩) := pLen_ok hv1.1
  rw [hl] at e0
  simp only [ofArgs, run_seq, run_block, run_ops, run_skip, run_exit, run_ret, thenQ_normal, thenQ_exit, thenQ_ret, blockQ_normal, blockQ_exit, blockQ_ret, retQ_ret, retQ_normal, ops_nil, ops_none, got_some, ops_wT, ops_wTn, ops_wF, ops_wFn, ops_wU, dops_wT, dops_wTn, dops_wF, dops_wFn, dops_wU, run_condT, run_condF, alt2_int, altB_bool, altI_int, altBB_bool, v_min, v_max, v_not, v_neg, optEv_none, optEv_some, isSome'_none, isSome'_some, pExt0, pExt1, pExt2, Bool.false_and, Bool.true_and, Bool.not_true, Bool.not_false, cond_true, cond_false, dops_nil, dops_none, xval_call, v_mov, v_bin, v_len, v_ext, v_idxA, v_ld, v_st, v_app, v_appN, v_cvs, v_bs1, pBs1, v_slc, v_conv, v_fld, v_fldA, v_new, v_box, v_mks, v_copy, v_isnil, v_nilck, v_pick, ev, evs_nil, evs_cons, fr_get_cons, fr_put_nil, fr_put_cons, fr_put_some, fr_put_none, fr_keep_nil, fr_keep_cons, fr_has_nil, fr_has_cons, Option.bind_some, Option.map_some, xbin, ibin, xresult_eq, xress_nil, xress_tmp, resV, ex_some, if_true, if_false, ite_true, ite_false, reduceIte, reduceCtorEq, Nat.reduceEqDiff, Nat.reduceLT, Nat.reduceLeDiff, Int.reduceLT, Int.reduceLE, Nat.zero_add, Nat.reduceAdd, Bool.false_eq_true, decide_eq_true_eq, decide_eq_false_iff_not, true_implies, false_implies, and_true, true_and, hmk, e0]
  have tl := fun Q => track_l0 H.n t S hS ht L v (.slice (some ⟨H.n, 0, none⟩) S S) l [] (H.push ⟨rep S [.slice none 0 0], 1, false, false⟩) Q hv1 (fun b hb => Sl.lt hv.1 hb) (fun s hs b hb => Sl.lt (hv.2 s (by simpa using hs)) hb) hm ob (by omega)
  have j0 : (([] : List SD).length : Int) = 0 := rfl
  rw [j0] at tl
  refine tl _ ?_
  intro H' o k
  simp only [ofArgs, run_seq, run_block, run_ops, run_skip, run_exit, run_ret, thenQ_normal, thenQ_exit, thenQ_ret, blockQ_normal, blockQ_exit, blockQ_ret, retQ_ret, retQ_normal, ops_nil, ops_none, got_some, ops_wT, ops_wTn, ops_wF, ops_wFn, ops_wU, dops_wT, dops_wTn, dops_wF, dops_wFn, dops_wU, run_condT, run_condF, alt2_int, altB_bool, altI_int, altBB_bool, v_min, v_max, v_not, v_neg, optEv_none, optEv_some, isSome'_none, isSome'_some, pExt0, pExt1, pExt2, Bool.false_and, Bool.true_and, Bool.not_true, Bool.not_false, cond_true, cond_false, dops_nil, dops_none, xval_call, v_mov, v_bin, v_len, v_ext, v_idxA, v_ld, v_st, v_app, v_appN, v_cvs, v_bs1, pBs1, v_slc, v_conv, v_fld, v_fldA, v_new, v_box, v_mks, v_copy, v_isnil, v_nilck, v_pick, ev, evs_nil, evs_cons, fr_get_cons, fr_put_nil, fr_put_cons, fr_put_some, fr_put_none, fr_keep_nil, fr_keep_cons, fr_has_nil, fr_has_cons, Option.bind_some, Option.map_some, xbin, ibin, xresult_eq, xress_nil, xress_tmp, resV, ex_some, if_true, if_false, ite_true, ite_false, reduceIte, reduceCtorEq, Nat.reduceEqDiff, Nat.reduceLT, Nat.reduceLeDiff, Int.reduceLT, Int.reduceLE, Nat.zero_add, Nat.reduceAdd, Bool.false_eq_true, decide_eq_true_eq, decide_eq_false_iff_not, true_implies, false_implies, and_true, true_and]
  exact hq _ H' o (Keep.trans (n0 := H.n) x1 k)
end Go.Proofs.Ytejedmocjdcdgaa.D

set_option linter.unusedSimpArgs false
set_option linter.unusedVariables false
namespace Go.Proofs.Ytejedmocjdcdgaa.D
open Go Go.Det

theorem tt_bs (L : List (List Int)) (S t : Nat) (hb : t * S + S ≤ L.length) (l : List SD) (hm : l.map told = tt L S t S) : (tkt l).map (·.2) = (L.drop (t * S)).take S := by
  have h1 : (tkt l).map (·.2) = (l.map told).map fun x => x.2.2.1 := by simp [tkt, told]
  rw [h1, hm]
  unfold tt
  rw [List.map_map]
  apply List.ext_getElem
  · simp; omega
  · intro i h1 h2
    simp at h1
    simp [List.getD_eq_getElem?_getD, List.getElem?_eq_getElem (by omega : t * S + i < L.length)]
theorem ones_of (H : AH) (l : List (Value × List Int)) (h : ∀ p ∈ l, Byts H p.1 p.2) : (l.map (·.1)).all one = true := by
  rw [List.all_eq_true]
  intro x hx
  obtain ⟨p, hp, rfl⟩ := List.mem_map.1 hx
  exact (slice_one (h p hp)).1
/-- a disk in the making: box D, and its sectors' slice -/
structure DkMk (n0 : Nat) (H : AH) (vx : Value) (lx : List (Value × List Int)) : Prop where
  own : Own n0 1 H vx lx.length (lx.map (·.1))
  byt : ∀ p ∈ lx, Byts H p.1 p.2
  ge : ∀ p ∈ lx, ∀ b, inB p.1 b → n0 ≤ b
  dis : ∀ p ∈ lx, ∀ b, inB p.1 b → ¬ inB vx b
theorem DkMk.same {n0 : Nat} {H H' : AH} {vx : Value} {lx : List (Value × List Int)} (h : DkMk n0 H vx lx) (hn : H.n ≤ H'.n) (hg : ∀ b, n0 ≤ b → b < H.n → H'.get b = H.get b) : DkMk n0 H' vx lx :=
  ⟨Own.same h.own hn fun b hb => hg b (by obtain ⟨o, l, c, e⟩ := hb; exact (h.own.2 b o l c e).1) (h.own.1.lt hb), fun p hp => Sl.same (h.byt p hp) hn fun b hb => hg b (h.ge p hp b hb) ((h.byt p hp).lt hb), h.ge, h.dis⟩

set_option maxHeartbeats 8000000 in
theorem back_l0 (n0 D T S : Nat) (cell : Int) (hc : 2 ≤ cell) (hc2 : cell ≤ 1000) (L : List (List Int)) (h8L : ∀ l ∈ L, S8 l) (hLT : L.length = T * S) (hT : T ≤ 20) (hS1 : 1 ≤ S) (hS : S ≤ 12) (vt p4 : Value) (lt : List (Value × List Int)) (hlt : lt.length = T) (htr : ∀ i p, lt[i]? = some p → TrOk cell L S i p.2) (hD : D < n0) (r : Nat) :
    ∀ (i : Nat) (vx : Value) (lx : List (Value × List Int)) (H : AH) (Q : XExit → Fr → AH → Prop), i + r = T → SL VSL H vt lt → (∀ p ∈ lt, Ints H p.1 p.2) → (∀ b, inB vt b → b < n0 ∧ b ≠ D) → (∀ p ∈ lt, ∀ b, inB p.1 b → b < n0 ∧ b ≠ D) → H.get D = some ⟨[.int .i64 (T : Int), .int .i64 (if i = 0 then 0 else (S : Int)), vx], 1, false, false⟩ → DkMk n0 H vx lx → n0 ≤ H.n → lx.map (·.2) = L.take (i * S) →
    (∀ H' vx' lx', H'.get D = some ⟨[.int .i64 (T : Int), .int .i64 (if T = 0 then 0 else (S : Int)), vx'], 1, false, false⟩ → DkMk n0 H' vx' lx' → lx'.map (·.2) = L.take (T * S) → H.n ≤ H'.n → (∀ d, d < n0 → d ≠ D → H'.get d = H.get d) → Q (.exit 0) [(1, .int .i64 cell), (4, p4), (6, .pointer (some ⟨D, 0, none⟩)), (23, vt), (24, .int .i64 (T : Int)), (25, .int .i64 (T : Int)), (26, .bool false)] H') →
    Run Try.prog tab (.loop ximage_Back_l0) [(1, .int .i64 cell), (4, p4), (6, .pointer (some ⟨D, 0, none⟩)), (23, vt), (24, .int .i64 (T : Int)), (25, .int .i64 (i : Int))] H Q := by
  induction r with
  | zero =>
    intro i vx lx H Q hi hv hvi hvb hpb hg ho hn hm hq
    have : i = T := by omega
    subst this
    rw [run_loop]
    generalize hL : XCode.loop ximage_Back_l0 = LL
    have hf : ¬ (i : Int) < (i : Int) := by omega
    simp only [ximage_Back_l0, ofArgs, run_seq, run_block, run_ops, run_skip, run_exit, run_ret, thenQ_normal, thenQ_exit, thenQ_ret, blockQ_normal, blockQ_exit, blockQ_ret, retQ_ret, retQ_normal, ops_nil, ops_none, got_some, ops_wT, ops_wTn, ops_wF, ops_wFn, ops_wU, dops_wT, dops_wTn, dops_wF, dops_wFn, dops_wU, run_condT, run_condF, alt2_int, altB_bool, altI_int, altBB_bool, v_min, v_max, v_not, v_neg, optEv_none, optEv_some, isSome'_none, isSome'_some, pExt0, pExt1, pExt2, Bool.false_and, Bool.true_and, Bool.not_true, Bool.not_false, cond_true, cond_false, dops_nil, dops_none, xval_call, v_mov, v_bin, v_len, v_ext, v_idxA, v_ld, v_st, v_app, v_appN, v_cvs, v_bs1, pBs1, v_slc, v_conv, v_fld, v_fldA, v_new, v_box, v_mks, v_copy, v_isnil, v_nilck, v_pick, ev, evs_nil, evs_cons, fr_get_cons, fr_put_nil, fr_put_cons, fr_put_some, fr_put_none, fr_keep_nil, fr_keep_cons, fr_has_nil, fr_has_cons, Option.bind_some, Option.map_some, xbin, ibin, xresult_eq, xress_nil, xress_tmp, resV, ex_some, if_true, if_false, ite_true, ite_false, reduceIte, reduceCtorEq, Nat.reduceEqDiff, Nat.reduceLT, Nat.reduceLeDiff, Int.reduceLT, Int.reduceLE, Nat.zero_add, Nat.reduceAdd, Bool.false_eq_true, decide_eq_true_eq, decide_eq_false_iff_not, true_implies, false_implies, and_true, true_and, hf, decide_false]
    exact hq H vx lx hg ho hm (Nat.le_refl _) (fun _ _ _ => rfl)
  | succ r ih =>
    intro i vx lx H Q hi hv hvi hvb hpb hg ho hn hm hq
    rw [run_loop]
    generalize hL : XCode.loop ximage_Back_l0 = LL
    have hil : i < lt.length := by omega
    have hlti : (i : Int) < (T : Int) := by omega
    obtain ⟨a1, a2⟩ := vsl_at hv (i : Int) i rfl (lt[i]) (List.getElem?_eq_getElem hil)
    obtain ⟨sl, hsl, hpx⟩ := htr i (lt[i]) (List.getElem?_eq_getElem hil)
    have hpi := hvi (lt[i]) (List.getElem_mem hil)
    generalize lt[i] = p at *
    rw [hpx] at hpi
    have hb : i * S + S ≤ L.length := by
      have := Nat.mul_le_mul_right S (by omega : i + 1 ≤ T)
      rw [Nat.add_mul, Nat.one_mul] at this
      omega
    have sok := tt_ok _ S i h8L (by omega) hS hb sl hsl
    have hsll : sl.length = S := by have := congrArg List.length hsl; rw [List.length_map, tt_len] at this; exact this
    simp only [ximage_Back_l0, ofArgs, run_seq, run_block, run_ops, run_skip, run_exit, run_ret, thenQ_normal, thenQ_exit, thenQ_ret, blockQ_normal, blockQ_exit, blockQ_ret, retQ_ret, retQ_normal, ops_nil, ops_none, got_some, ops_wT, ops_wTn, ops_wF, ops_wFn, ops_wU, dops_wT, dops_wTn, dops_wF, dops_wFn, dops_wU, run_condT, run_condF, alt2_int, altB_bool, altI_int, altBB_bool, v_min, v_max, v_not, v_neg, optEv_none, optEv_some, isSome'_none, isSome'_some, pExt0, pExt1, pExt2, Bool.false_and, Bool.true_and, Bool.not_true, Bool.not_false, cond_true, cond_false, dops_nil, dops_none, xval_call, v_mov, v_bin, v_len, v_ext, v_idxA, v_ld, v_st, v_app, v_appN, v_cvs, v_bs1, pBs1, v_slc, v_conv, v_fld, v_fldA, v_new, v_box, v_mks, v_copy, v_isnil, v_nilck, v_pick, ev, evs_nil, evs_cons, fr_get_cons, fr_put_nil, fr_put_cons, fr_put_some, fr_put_none, fr_keep_nil, fr_keep_cons, fr_has_nil, fr_has_cons, Option.bind_some, Option.map_some, xbin, ibin, xresult_eq, xress_nil, xress_tmp, resV, ex_some, if_true, if_false, ite_true, ite_false, reduceIte, reduceCtorEq, Nat.reduceEqDiff, Nat.reduceLT, Nat.reduceLeDiff, Int.reduceLT, Int.reduceLE, Nat.zero_add, Nat.reduceAdd, Bool.false_eq_true, decide_eq_true_eq, decide_eq_false_iff_not, true_implies, false_implies, and_true, true_and, hlti, decide_true, a1, a2]
    refine scan_ok sl sok (by omega) p.1 cell H _ hpi hc hc2 ?_
    intro v l' H1 o1 hlo1 hm1 x1
    rw [hsl] at hm1
    have hl' : l'.length = S := by have := congrArg List.length hm1; rw [List.length_map, tt_len] at this; exact this
    have n1 := x1.1
    have hg1 := (x1.2 D (by omega)).trans hg
    have z0 : ((0 : Int) != 0) = false := rfl
    have e1 : ∀ H, SL SDL H v l' → pLen v H = some (.int .i64 (S : Int), H) := fun H h => by have := pLen_ok h; rw [hl'] at this; exact this
    have hvge : ∀ b, inB v b → H.n ≤ b := fun b hb => o1.own.ge hb
    -- what follows, with the number of sectors in its place
    have rest : ∀ H2, H2.get D = some ⟨[.int .i64 (T : Int), .int .i64 (S : Int), vx], 1, false, false⟩ → H2.n = H1.n → (∀ d, d ≠ D → H2.get d = H1.get d) →
        pLen v H2 = some (.int .i64 (S : Int), H2) ∧ pLd none (.pointer (some ⟨D, 1, none⟩)) H2 = some (.int .i64 (S : Int), H2) ∧
        Got (xc Try.prog tab 111 [.int .i64 (i : Int), v, .int .i64 (S : Int)] H2) fun u H3 => ∃ vb, u = .tuple [vb, .int .i64 0].toArray ∧ pLd none (.pointer (some ⟨D, 2, none⟩)) H3 = some (vx, H3) ∧
          Got (xapp H3 1 24 vx vb) fun vx' H4 => ∃ H5, pSt 1 (.pointer (some ⟨D, 2, none⟩)) vx' H4 = some (undef, H5) ∧
            Run Try.prog tab LL [(1, .int .i64 cell), (4, p4), (6, .pointer (some ⟨D, 0, none⟩)), (23, vt), (24, .int .i64 (T : Int)), (25, .int .i64 ((i : Int) + 1))] H5 Q := by
      intro H2 g2 n2 k2
      have s2 : SDs H2 v l' := ⟨Sl.same o1.own.1 (by omega) fun b hb => k2 b (by have := hvge b hb; omega), fun s hs => Sl.same (o1.byt s hs) (by omega) fun b hb => k2 b (by have := hlo1 s hs b hb; omega)⟩
      refine ⟨e1 H2 s2.1, ld3_1 g2, ?_⟩
      refine imtrack_ok i S hS (by omega) L v l' H2 _ s2 hm1 ?_
      intro vb H3 ob x3
      have n3 := x3.1
      have g3 := (x3.2 D (by omega)).trans g2
      refine ⟨vb, rfl, ld3_2 g3, ?_⟩
      have s3 := s2.ext x3
      have hbt : ∀ p ∈ tkt l', Byts H3 p.1 p.2 := fun p hp => by
        obtain ⟨s, hs, rfl⟩ := List.mem_map.1 hp
        exact s3.2 s hs
      have hbge : ∀ p ∈ tkt l', ∀ b, inB p.1 b → H.n ≤ b := fun p hp b hb => by
        obtain ⟨s, hs, rfl⟩ := List.mem_map.1 hp
        exact hlo1 s hs b hb
      have ho3 : DkMk n0 H3 vx lx := ho.same (by omega) fun b hb hb2 => (x3.2 b (by omega)).trans ((k2 b (by omega)).trans (x1.2 b hb2))
      have hvxl : ∀ b, inB vx b → b < H.n := fun b hb => ho.own.1.lt hb
      have hsb : Sl H3 1 vb (tkt l').length ((tkt l').map (·.1)) := by have := ob.1; rw [vsl_cells] at this; exact this
      have hlx : lx.length ≤ 240 := by
        have h1 := congrArg List.length hm
        rw [List.length_map, List.length_take] at h1
        have h2 : i * S ≤ 20 * 12 := Nat.mul_le_mul (by omega) hS
        omega
      have htk : (tkt l').length = S := by simp [tkt, hl']
      refine xapp_own ho3.own (by omega) hsb (ones_of H3 _ hbt) (Nat.le_refl _) (by decide) (by omega) ?_
      intro vx' H4 o4 st4
      have n4 := st4.n
      have notv : ∀ d, d < n0 → ¬ inB vx d := fun d hd ⟨o, l, cc, e⟩ => by have := (ho3.own.2 d o l cc e).1; omega
      have g4 := (st4.get D (by omega) (notv D hD)).trans g3
      obtain ⟨w1, w2⟩ := slice_one o4.1
      have stD := st3_2 g4 w1 w2
      refine ⟨_, stD, ?_⟩
      subst hL
      have hg5 : (H4.set D ⟨[.int .i64 (T : Int), .int .i64 (S : Int), vx'], 1, false, false⟩).get D = some ⟨[.int .i64 (T : Int), .int .i64 (S : Int), vx'], 1, false, false⟩ := by rw [AH.get_set, if_pos rfl]
      have k5 : ∀ d, d < n0 → d ≠ D → (H4.set D ⟨[.int .i64 (T : Int), .int .i64 (S : Int), vx'], 1, false, false⟩).get d = H.get d := fun d hd hde => by
        rw [AH.get_set, if_neg hde]
        exact (st4.get d (by omega) (notv d hd)).trans ((x3.2 d (by omega)).trans ((k2 d hde).trans (x1.2 d (by omega))))
      have dk5 : DkMk n0 (H4.set D ⟨[.int .i64 (T : Int), .int .i64 (S : Int), vx'], 1, false, false⟩) vx' (lx ++ tkt l') := by
        have ge5 : ∀ p ∈ lx ++ tkt l', ∀ b, inB p.1 b → n0 ≤ b := fun p hp b hb => by
          rcases List.mem_append.1 hp with h | h
          · exact ho.ge p h b hb
          · have := hbge p h b hb; omega
        have nv5 : ∀ p ∈ lx ++ tkt l', ∀ b, inB p.1 b → ¬ inB vx b := fun p hp b hb hv => by
          rcases List.mem_append.1 hp with h | h
          · exact ho.dis p h b hb hv
          · have := hbge p h b hb; have := hvxl b hv; omega
        have by3 : ∀ p ∈ lx ++ tkt l', Byts H3 p.1 p.2 := fun p hp => by
          rcases List.mem_append.1 hp with h | h
          · exact ho3.byt p h
          · exact hbt p h
        refine ⟨?_, fun p hp => ?_, ge5, fun p hp b hb hv => ?_⟩
        · rw [List.length_append, List.map_append]
          refine Own.same o4 (Nat.le_refl _) fun b hb => ?_
          have h1 : n0 ≤ b := by obtain ⟨o, l, c, e⟩ := hb; exact (o4.2 b o l c e).1
          rw [AH.get_set, if_neg (by omega)]
        · refine Sl.same (by3 p hp) (by show H3.n ≤ H4.n; omega) fun b hb => ?_
          have h1 := ge5 p hp b hb
          rw [AH.get_set, if_neg (by omega)]
          exact st4.get b ((by3 p hp).lt hb) (nv5 p hp b hb)
        · rcases st4.new b hv with h2 | h2
          · exact nv5 p hp b hb h2
          · have := (by3 p hp).lt hb; omega
      have e3 : ((i : Int) + 1) = ((i + 1 : Nat) : Int) := rfl
      rw [e3]
      refine ih (i + 1) vx' (lx ++ tkt l') _ Q (by omega) (Sl.same hv (by show H.n ≤ H4.n; omega) fun b hb => k5 b (hvb b hb).1 (hvb b hb).2) (fun p hp => Sl.same (hvi p hp) (by show H.n ≤ H4.n; omega) fun b hb => k5 b (hpb p hp b hb).1 (hpb p hp b hb).2) hvb hpb (by rw [if_neg (by omega)]; exact hg5) dk5 (by show n0 ≤ H4.n; omega) ?_ ?_
      · rw [List.map_append, hm, tt_bs L S i hb l' hm1, Nat.add_mul, Nat.one_mul, List.take_add]
      · intro H6 vx6 lx6 g6 d6 m6 n6 k6
        exact hq H6 vx6 lx6 g6 d6 m6 (by have : H4.n ≤ H6.n := n6; omega) (fun d hd hde => (k6 d hd hde).trans (k5 d hd hde))
    have w3 := wrI ((i : Int) + 1) (by omega) (by omega)
    have cS0 : (((S : Nat) : Int) == 0) = false := by simp; omega
    have e11 := e1 H1 o1.own.1
    by_cases h0 : i = 0
    · subst h0
      have ci : (((0 : Nat) : Int) == 0) = true := rfl
      rw [if_pos rfl] at hg1
      have stS := st3_1 (b' := .int .i64 (S : Int)) hg1 rfl rfl
      obtain ⟨r1, r2, r3⟩ := rest (H1.set D ⟨[.int .i64 (T : Int), .int .i64 (S : Int), vx], 1, false, false⟩) (by rw [AH.get_set, if_pos rfl]) rfl (fun d hd => by rw [AH.get_set, if_neg hd])
      simp only [ofArgs, run_seq, run_block, run_ops, run_skip, run_exit, run_ret, thenQ_normal, thenQ_exit, thenQ_ret, blockQ_normal, blockQ_exit, blockQ_ret, retQ_ret, retQ_normal, ops_nil, ops_none, got_some, ops_wT, ops_wTn, ops_wF, ops_wFn, ops_wU, dops_wT, dops_wTn, dops_wF, dops_wFn, dops_wU, run_condT, run_condF, alt2_int, altB_bool, altI_int, altBB_bool, v_min, v_max, v_not, v_neg, optEv_none, optEv_some, isSome'_none, isSome'_some, pExt0, pExt1, pExt2, Bool.false_and, Bool.true_and, Bool.not_true, Bool.not_false, cond_true, cond_false, dops_nil, dops_none, xval_call, v_mov, v_bin, v_len, v_ext, v_idxA, v_ld, v_st, v_app, v_appN, v_cvs, v_bs1, pBs1, v_slc, v_conv, v_fld, v_fldA, v_new, v_box, v_mks, v_copy, v_isnil, v_nilck, v_pick, ev, evs_nil, evs_cons, fr_get_cons, fr_put_nil, fr_put_cons, fr_put_some, fr_put_none, fr_keep_nil, fr_keep_cons, fr_has_nil, fr_has_cons, Option.bind_some, Option.map_some, xbin, ibin, xresult_eq, xress_nil, xress_tmp, resV, ex_some, if_true, if_false, ite_true, ite_false, reduceIte, reduceCtorEq, Nat.reduceEqDiff, Nat.reduceLT, Nat.reduceLeDiff, Int.reduceLT, Int.reduceLE, Nat.zero_add, Nat.reduceAdd, Bool.false_eq_true, decide_eq_true_eq, decide_eq_false_iff_not, true_implies, false_implies, and_true, true_and, z0, ci, e11, fldA1, stS, r1, r2, bne_self_eq_false, cS0]
      refine r3.mono ?_
      rintro u H3 ⟨vb, rfl, r4, r5⟩
      simp only [ofArgs, run_seq, run_block, run_ops, run_skip, run_exit, run_ret, thenQ_normal, thenQ_exit, thenQ_ret, blockQ_normal, blockQ_exit, blockQ_ret, retQ_ret, retQ_normal, ops_nil, ops_none, got_some, ops_wT, ops_wTn, ops_wF, ops_wFn, ops_wU, dops_wT, dops_wTn, dops_wF, dops_wFn, dops_wU, run_condT, run_condF, alt2_int, altB_bool, altI_int, altBB_bool, v_min, v_max, v_not, v_neg, optEv_none, optEv_some, isSome'_none, isSome'_some, pExt0, pExt1, pExt2, Bool.false_and, Bool.true_and, Bool.not_true, Bool.not_false, cond_true, cond_false, dops_nil, dops_none, xval_call, v_mov, v_bin, v_len, v_ext, v_idxA, v_ld, v_st, v_app, v_appN, v_cvs, v_bs1, pBs1, v_slc, v_conv, v_fld, v_fldA, v_new, v_box, v_mks, v_copy, v_isnil, v_nilck, v_pick, ev, evs_nil, evs_cons, fr_get_cons, fr_put_nil, fr_put_cons, fr_put_some, fr_put_none, fr_keep_nil, fr_keep_cons, fr_has_nil, fr_has_cons, Option.bind_some, Option.map_some, xbin, ibin, xresult_eq, xress_nil, xress_tmp, resV, ex_some, if_true, if_false, ite_true, ite_false, reduceIte, reduceCtorEq, Nat.reduceEqDiff, Nat.reduceLT, Nat.reduceLeDiff, Int.reduceLT, Int.reduceLE, Nat.zero_add, Nat.reduceAdd, Bool.false_eq_true, decide_eq_true_eq, decide_eq_false_iff_not, true_implies, false_implies, and_true, true_and, z0, fldA2, r4]
      refine r5.mono ?_
      rintro vx' H4 ⟨H5, r6, r7⟩
      simp only [ofArgs, run_seq, run_block, run_ops, run_skip, run_exit, run_ret, thenQ_normal, thenQ_exit, thenQ_ret, blockQ_normal, blockQ_exit, blockQ_ret, retQ_ret, retQ_normal, ops_nil, ops_none, got_some, ops_wT, ops_wTn, ops_wF, ops_wFn, ops_wU, dops_wT, dops_wTn, dops_wF, dops_wFn, dops_wU, run_condT, run_condF, alt2_int, altB_bool, altI_int, altBB_bool, v_min, v_max, v_not, v_neg, optEv_none, optEv_some, isSome'_none, isSome'_some, pExt0, pExt1, pExt2, Bool.false_and, Bool.true_and, Bool.not_true, Bool.not_false, cond_true, cond_false, dops_nil, dops_none, xval_call, v_mov, v_bin, v_len, v_ext, v_idxA, v_ld, v_st, v_app, v_appN, v_cvs, v_bs1, pBs1, v_slc, v_conv, v_fld, v_fldA, v_new, v_box, v_mks, v_copy, v_isnil, v_nilck, v_pick, ev, evs_nil, evs_cons, fr_get_cons, fr_put_nil, fr_put_cons, fr_put_some, fr_put_none, fr_keep_nil, fr_keep_cons, fr_has_nil, fr_has_cons, Option.bind_some, Option.map_some, xbin, ibin, xresult_eq, xress_nil, xress_tmp, resV, ex_some, if_true, if_false, ite_true, ite_false, reduceIte, reduceCtorEq, Nat.reduceEqDiff, Nat.reduceLT, Nat.reduceLeDiff, Int.reduceLT, Int.reduceLE, Nat.zero_add, Nat.reduceAdd, Bool.false_eq_true, decide_eq_true_eq, decide_eq_false_iff_not, true_implies, false_implies, and_true, true_and, r6, w3]
      exact r7
    · have ci : ((i : Int) == 0) = false := by simp; omega
      rw [if_neg h0] at hg1
      obtain ⟨r1, r2, r3⟩ := rest H1 hg1 rfl (fun _ _ => rfl)
      simp only [ofArgs, run_seq, run_block, run_ops, run_skip, run_exit, run_ret, thenQ_normal, thenQ_exit, thenQ_ret, blockQ_normal, blockQ_exit, blockQ_ret, retQ_ret, retQ_normal, ops_nil, ops_none, got_some, ops_wT, ops_wTn, ops_wF, ops_wFn, ops_wU, dops_wT, dops_wTn, dops_wF, dops_wFn, dops_wU, run_condT, run_condF, alt2_int, altB_bool, altI_int, altBB_bool, v_min, v_max, v_not, v_neg, optEv_none, optEv_some, isSome'_none, isSome'_some, pExt0, pExt1, pExt2, Bool.false_and, Bool.true_and, Bool.not_true, Bool.not_false, cond_true, cond_false, dops_nil, dops_none, xval_call, v_mov, v_bin, v_len, v_ext, v_idxA, v_ld, v_st, v_app, v_appN, v_cvs, v_bs1, pBs1, v_slc, v_conv, v_fld, v_fldA, v_new, v_box, v_mks, v_copy, v_isnil, v_nilck, v_pick, ev, evs_nil, evs_cons, fr_get_cons, fr_put_nil, fr_put_cons, fr_put_some, fr_put_none, fr_keep_nil, fr_keep_cons, fr_has_nil, fr_has_cons, Option.bind_some, Option.map_some, xbin, ibin, xresult_eq, xress_nil, xress_tmp, resV, ex_some, if_true, if_false, ite_true, ite_false, reduceIte, reduceCtorEq, Nat.reduceEqDiff, Nat.reduceLT, Nat.reduceLeDiff, Int.reduceLT, Int.reduceLE, Nat.zero_add, Nat.reduceAdd, Bool.false_eq_true, decide_eq_true_eq, decide_eq_false_iff_not, true_implies, false_implies, and_true, true_and, z0, ci, e11, fldA1, r1, r2, bne_self_eq_false, cS0]
      refine r3.mono ?_
      rintro u H3 ⟨vb, rfl, r4, r5⟩
      simp only [ofArgs, run_seq, run_block, run_ops, run_skip, run_exit, run_ret, thenQ_normal, thenQ_exit, thenQ_ret, blockQ_normal, blockQ_exit, blockQ_ret, retQ_ret, retQ_normal, ops_nil, ops_none, got_some, ops_wT, ops_wTn, ops_wF, ops_wFn, ops_wU, dops_wT, dops_wTn, dops_wF, dops_wFn, dops_wU, run_condT, run_condF, alt2_int, altB_bool, altI_int, altBB_bool, v_min, v_max, v_not, v_neg, optEv_none, optEv_some, isSome'_none, isSome'_some, pExt0, pExt1, pExt2, Bool.false_and, Bool.true_and, Bool.not_true, Bool.not_false, cond_true, cond_false, dops_nil, dops_none, xval_call, v_mov, v_bin, v_len, v_ext, v_idxA, v_ld, v_st, v_app, v_appN, v_cvs, v_bs1, pBs1, v_slc, v_conv, v_fld, v_fldA, v_new, v_box, v_mks, v_copy, v_isnil, v_nilck, v_pick, ev, evs_nil, evs_cons, fr_get_cons, fr_put_nil, fr_put_cons, fr_put_some, fr_put_none, fr_keep_nil, fr_keep_cons, fr_has_nil, fr_has_cons, Option.bind_some, Option.map_some, xbin, ibin, xresult_eq, xress_nil, xress_tmp, resV, ex_some, if_true, if_false, ite_true, ite_false, reduceIte, reduceCtorEq, Nat.reduceEqDiff, Nat.reduceLT, Nat.reduceLeDiff, Int.reduceLT, Int.reduceLE, Nat.zero_add, Nat.reduceAdd, Bool.false_eq_true, decide_eq_true_eq, decide_eq_false_iff_not, true_implies, false_implies, and_true, true_and, z0, fldA2, r4]
      refine r5.mono ?_
      rintro vx' H4 ⟨H5, r6, r7⟩
      simp only [ofArgs, run_seq, run_block, run_ops, run_skip, run_exit, run_ret, thenQ_normal, thenQ_exit, thenQ_ret, blockQ_normal, blockQ_exit, blockQ_ret, retQ_ret, retQ_normal, ops_nil, ops_none, got_some, ops_wT, ops_wTn, ops_wF, ops_wFn, ops_wU, dops_wT, dops_wTn, dops_wF, dops_wFn, dops_wU, run_condT, run_condF, alt2_int, altB_bool, altI_int, altBB_bool, v_min, v_max, v_not, v_neg, optEv_none, optEv_some, isSome'_none, isSome'_some, pExt0, pExt1, pExt2, Bool.false_and, Bool.true_and, Bool.not_true, Bool.not_false, cond_true, cond_false, dops_nil, dops_none, xval_call, v_mov, v_bin, v_len, v_ext, v_idxA, v_ld, v_st, v_app, v_appN, v_cvs, v_bs1, pBs1, v_slc, v_conv, v_fld, v_fldA, v_new, v_box, v_mks, v_copy, v_isnil, v_nilck, v_pick, ev, evs_nil, evs_cons, fr_get_cons, fr_put_nil, fr_put_cons, fr_put_some, fr_put_none, fr_keep_nil, fr_keep_cons, fr_has_nil, fr_has_cons, Option.bind_some, Option.map_some, xbin, ibin, xresult_eq, xress_nil, xress_tmp, resV, ex_some, if_true, if_false, ite_true, ite_false, reduceIte, reduceCtorEq, Nat.reduceEqDiff, Nat.reduceLT, Nat.reduceLeDiff, Int.reduceLT, Int.reduceLE, Nat.zero_add, Nat.reduceAdd, Bool.false_eq_true, decide_eq_true_eq, decide_eq_false_iff_not, true_implies, false_implies, and_true, true_and, r6, w3]
      exact r7
end Go.Proofs.Ytejedmocjdcdgaa.D
