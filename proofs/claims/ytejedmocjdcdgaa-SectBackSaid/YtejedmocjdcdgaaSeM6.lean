/- What runs of the program's functions compute, on a heap of the run's own, and that the machine does what such a run says: the conditions stand in each theorem. -/
import Derived.Test.YtejedmocjdcdgaaSeM5
set_option linter.unusedSimpArgs false
set_option linter.unusedVariables false
namespace Go.Proofs.Ytejedmocjdcdgaa.D
open Go Go.Det

/-! ### what is written of a sector -/
def flipl (l : List Int) : List Int := l.set (l.length - 1) (((l.getD (l.length - 1) 0).toNat ^^^ 255 : Nat) : Int)
theorem flipl_len (l : List Int) : (flipl l).length = l.length := by simp [flipl]
theorem flipl_b8 (l : List Int) (h : B8 l) : B8 (flipl l) := by
  have h1 := b8_get l h (l.length - 1)
  have := x8 (a := (l.getD (l.length - 1) 0).toNat) (b := 255) (by omega) (by omega)
  exact b8_set l h _ _ (by omega) (by omega)
theorem flipl_crc (l : List Int) (h : B8 l) (hl : 1 ≤ l.length) (hz : crcFold 65535 l = 0) : crcFold 65535 (flipl l) ≠ 0 := by
  unfold flipl
  rw [crcFold_set l h 255 (by omega) (l.length - 1) 65535 (by omega) (by omega), hz, Nat.zero_xor]
  exact rounds_ne _ _ (by omega) (by omega)
def hdS (s : SD) : List Int := sealed [254, s.tr, s.nu]
def bdS (s : SD) : List Int := if s.bad then flipl (sealed (251 :: s.bs)) else sealed (251 :: s.bs)
def ptS (s : SD) : List Pt := [(true, hdS s ++ gp), (true, bdS s ++ gp)]
def fmtP (l : List SD) : List Pt := (false, gp) :: l.flatMap ptS
theorem hd_b8 (s : SD) (h : SdOk s) : B8 [254, s.tr, s.nu] := by
  obtain ⟨s1, s2, s3, s4, s5, s6⟩ := h
  intro b hb
  simp at hb
  omega
theorem bd_b8 (s : SD) (h : SdOk s) : B8 (251 :: s.bs) := by
  obtain ⟨s1, s2, s3, s4, s5, s6⟩ := h
  intro b hb
  rcases List.mem_cons.1 hb with h | h
  · omega
  · exact s6 b h
theorem hdS_len (s : SD) : (hdS s).length = 5 := by simp [hdS, sealed_len]
theorem bdS_len (s : SD) (h : SdOk s) : (bdS s).length = 131 := by
  unfold bdS
  split
  · rw [flipl_len, sealed_len, List.length_cons, h.2.2.2.2.1]
  · rw [sealed_len, List.length_cons, h.2.2.2.2.1]
theorem bdS_b8 (s : SD) (h : SdOk s) : B8 (bdS s) := by
  unfold bdS
  split
  · exact flipl_b8 _ (sealed_b8 _ (bd_b8 s h))
  · exact sealed_b8 _ (bd_b8 s h)
theorem b8_app {a b : List Int} (ha : B8 a) (hb : B8 b) : B8 (a ++ b) := fun x hx => by
  rcases List.mem_append.1 hx with h | h
  · exact ha x h
  · exact hb x h
theorem fmt_canon (l : List SD) (h : ∀ s ∈ l, SdOk s) : Canon (fmtP l) := by
  refine ⟨fun p hp => ?_, fun p hp => ?_, fun p hp => ?_⟩
  · rcases List.mem_cons.1 hp with h1 | h1
    · subst h1; exact gp_b8
    · obtain ⟨s, hs, h2⟩ := List.mem_flatMap.1 h1
      simp only [ptS, List.mem_cons, List.not_mem_nil, or_false] at h2
      rcases h2 with rfl | rfl
      · exact b8_app (sealed_b8 _ (hd_b8 s (h s hs))) gp_b8
      · exact b8_app (bdS_b8 s (h s hs)) gp_b8
  · obtain ⟨s, hs, h2⟩ := List.mem_flatMap.1 hp
    simp only [ptS, List.mem_cons, List.not_mem_nil, or_false] at h2
    rcases h2 with rfl | rfl <;> rfl
  · simp only [fmtP, List.head?_cons, Option.some.injEq] at hp
    subst hp
    exact .inr (by decide)
theorem fmt_sz (l : List SD) (h : ∀ s ∈ l, SdOk s) : szP (fmtP l) = 8 + 154 * l.length := by
  have key : szP (l.flatMap ptS) = 154 * l.length := by
    induction l with
    | nil => rfl
    | cons s l ih =>
      have e : (s :: l).flatMap ptS = (true, hdS s ++ gp) :: (true, bdS s ++ gp) :: l.flatMap ptS := by simp [ptS]
      rw [e, szP_cons, szP_cons, ih (fun y hy => h y (by simp [hy]))]
      have h1 := hdS_len s
      have h2 := bdS_len s (h s (by simp))
      simp only [List.length_append, h1, h2, gp, List.length_cons, List.length_nil, if_true]
      omega
  unfold fmtP
  rw [szP_cons, key]
  simp [gp]

/-! ### structs in the making -/
def altNN (o1 o2 : Option Value) (f : IntKind → Int → IntKind → Int → Option (Value × AH)) (z : Option (Value × AH)) : Option (Value × AH) :=
  match o1, o2 with
  | some (.int k n), some (.int k2 n2) => f k n k2 n2
  | _, _ => z
theorem altNN_int (k k2 : IntKind) (n n2 : Int) (f : IntKind → Int → IntKind → Int → Option (Value × AH)) (z : Option (Value × AH)) : altNN (some (.int k n)) (some (.int k2 n2)) f z = f k n k2 n2 := rfl
theorem v_bs3 {P : Program} {T : XTab} (fr : Fr) (H : AH) (dd : Option Nat) (e : TypeId) (x y : Operand) (z : Value) (ka : IntKind) (a : Int) : xval P (xc P T) ⟨dd, .bslice e 1 3 [z] [(0, .const (.int ka a)), (1, x), (2, y)], none⟩ fr H =
    altNN (ev fr x) (ev fr y) (fun k n k2 n2 => some (.slice (some ⟨H.n, 0, none⟩) 3 3, H.push ⟨[.int ka a, .int k n, .int k2 n2], 1, false, false⟩)) (xop P fr H (.bslice e 1 3 [z] [(0, .const (.int ka a)), (1, x), (2, y)])) := by
  rw [xval_op dd _ fr H rfl]
  unfold altNN
  split
  · rename_i k n k2 n2 h h2
    rw [e_bslice]
    simp only [List.map_cons, List.map_nil, xfill, h, h2]
    rfl
  · rfl
def altAA (o1 o2 : Option Value) (f : Bool → Value → Bool → Value → Option (Value × AH)) (z : Option (Value × AH)) : Option (Value × AH) :=
  match o1, o2 with
  | some (.agg ⟨[.bool m, w]⟩), some (.agg ⟨[.bool m2, w2]⟩) => if one w = true ∧ one w2 = true then f m w m2 w2 else z
  | _, _ => z
theorem altAA_val (m m2 : Bool) (w w2 : Value) (h1 : one w = true) (h2 : one w2 = true) (f : Bool → Value → Bool → Value → Option (Value × AH)) (z : Option (Value × AH)) : altAA (some (.agg #[.bool m, w])) (some (.agg #[.bool m2, w2])) f z = f m w m2 w2 := by
  show (if one w = true ∧ one w2 = true then f m w m2 w2 else z) = _
  rw [if_pos ⟨h1, h2⟩]
theorem v_bs22 {P : Program} {T : XTab} (fr : Fr) (H : AH) (dd : Option Nat) (e : TypeId) (x y : Operand) (z0 z1 : Value) : xval P (xc P T) ⟨dd, .bslice e 2 2 [z0, z1] [(0, x), (1, y)], none⟩ fr H =
    altAA (ev fr x) (ev fr y) (fun m w m2 w2 => some (.slice (some ⟨H.n, 0, none⟩) 2 2, H.push ⟨[.bool m, w, .bool m2, w2], 2, false, false⟩)) (xop P fr H (.bslice e 2 2 [z0, z1] [(0, x), (1, y)])) := by
  rw [xval_op dd _ fr H rfl]
  unfold altAA
  split
  · rename_i m w m2 w2 h h2
    split
    · rename_i hh
      rw [e_bslice]
      have e1 : vcells (.agg ⟨[.bool m, w]⟩) = [.bool m, w] := rfl
      have e2 : vcells (.agg ⟨[.bool m2, w2]⟩) = [.bool m2, w2] := rfl
      simp only [List.map_cons, List.map_nil, xfill, h, h2, e1, e2, List.all_cons, List.all_nil, hh.1, hh.2]
      rfl
    · rfl
  · rfl

/-! ### parts in the making -/
def PTL : LS T3 := ⟨2, fun p => [.bool p.1, p.2.2], fun _ => rfl, by decide⟩
theorem prc_cells (l : List T3) : PTL.cells l = prc l := by
  induction l with
  | nil => rfl
  | cons p l ih =>
    have : PTL.cells (p :: l) = PTL.f p ++ PTL.cells l := by simp [LS.cells]
    rw [this, ih]
    rfl
structure OutF (n0 : Nat) (H : AH) (v : Value) (l : List T3) : Prop where
  own : OL PTL n0 H v l
  byt : ∀ p ∈ l, Byts H p.2.2 p.2.1
  dis : ∀ p ∈ l, ∀ b, inB p.2.2 b → ¬ inB v b
theorem OutF.rp {n0 : Nat} {H : AH} {v : Value} {l : List T3} (h : OutF n0 H v l) : RP H v l := ⟨by have := h.own.1; rw [prc_cells] at this; exact this, h.byt⟩
theorem OutF.ext {n0 : Nat} {H H' : AH} {v : Value} {l : List T3} (h : OutF n0 H v l) (x : HExt H H') : OutF n0 H' v l := ⟨h.own.ext x, fun p hp => Sl.ext x (h.byt p hp), h.dis⟩

theorem OwnB.flip {n0 : Nat} {H : AH} {v : Value} {l : List Int} {k : Nat} {c : Int} {Q : Value → AH → Prop} (ho : OwnB n0 H v l) (hk : k < l.length) (hq : ∀ H', OwnB n0 H' v (l.set k c) → Stp v H v H' → Q undef H') : Got (pSt 1 (ptrAt v k) (.int .u8 c) H) Q := by
  refine pSt_own ho (by simpa using hk) rfl rfl ?_
  intro H' o s
  refine hq H' ?_ s
  have el : (l.set k c).length = l.length := by simp
  unfold OwnB
  rw [el]
  have em : (l.set k c).map (Value.int .u8) = (l.map (Value.int .u8)).set k (.int .u8 c) := by simp
  rw [em]; exact o

set_option maxHeartbeats 8000000 in
theorem fmt_l0 (n1 : Nat) (cell v : Value) (rest : List SD) : ∀ (pre : List SD) (lp : List T3) (vp : Value) (H : AH) (i N : Int) (Q : XExit → Fr → AH → Prop), SDs H v (pre ++ rest) → (∀ b, inB v b → b < n1) → (∀ s ∈ pre ++ rest, ∀ b, inB s.w b → b < n1) → OutF n1 H vp lp → n1 ≤ H.n → (∀ s ∈ rest, SdOk s) → pre.length + rest.length ≤ 100 → lp.length + 2 * rest.length ≤ 1000 → i = (pre.length : Int) → N = ((pre ++ rest).length : Int) →
    (∀ H' vp' lp', OutF n1 H' vp' lp' → lp'.map strip = lp.map strip ++ rest.flatMap ptS → Keep n1 H H' → Q (.exit 0) [(2, cell), (9, vp'), (23, v), (24, .int .i64 N), (25, .int .i64 N), (26, .bool false)] H') →
    Run Try.prog tab (.loop xsect_Format_l0) [(2, cell), (9, vp), (23, v), (24, .int .i64 N), (25, .int .i64 i)] H Q := by
  induction rest with
  | nil =>
    intro pre lp vp H i N Q hv hvb hwb ho hn hok hl hl2 hi hN hq
    rw [run_loop]
    generalize hL : XCode.loop xsect_Format_l0 = L
    have hiN : i = N := by simp at hN; omega
    subst hiN
    have hf : ¬ i < i := by omega
    simp only [xsect_Format_l0, ofArgs, run_seq, run_block, run_ops, run_skip, run_exit, run_ret, thenQ_normal, thenQ_exit, thenQ_ret, blockQ_normal, blockQ_exit, blockQ_ret, retQ_ret, retQ_normal, ops_nil, ops_none, got_some, ops_wT, ops_wTn, ops_wF, ops_wFn, ops_wU, dops_wT, dops_wTn, dops_wF, dops_wFn, dops_wU, run_condT, run_condF, alt2_int, altB_bool, altI_int, altBB_bool, v_min, v_max, v_not, v_neg, optEv_none, optEv_some, isSome'_none, isSome'_some, pExt0, pExt1, pExt2, Bool.false_and, Bool.true_and, Bool.not_true, Bool.not_false, cond_true, cond_false, dops_nil, dops_none, xval_call, v_mov, v_bin, v_len, v_ext, v_idxA, v_ld, v_st, v_app, v_appN, v_cvs, v_bs1, pBs1, v_slc, v_conv, v_fld, v_fldA, v_new, v_box, v_mks, v_copy, v_isnil, v_nilck, v_pick, ev, evs_nil, evs_cons, fr_get_cons, fr_put_nil, fr_put_cons, fr_put_some, fr_put_none, fr_keep_nil, fr_keep_cons, fr_has_nil, fr_has_cons, Option.bind_some, Option.map_some, xbin, ibin, xresult_eq, xress_nil, xress_tmp, resV, ex_some, if_true, if_false, ite_true, ite_false, reduceIte, reduceCtorEq, Nat.reduceEqDiff, Nat.reduceLT, Nat.reduceLeDiff, Int.reduceLT, Int.reduceLE, Nat.zero_add, Nat.reduceAdd, Bool.false_eq_true, decide_eq_true_eq, decide_eq_false_iff_not, true_implies, false_implies, and_true, true_and, hf, decide_false]
    exact hq H vp lp ho (by simp) (.refl _ _)
  | cons s rest ih =>
    intro pre lp vp H i N Q hv hvb hwb ho hn hok hl hl2 hi hN hq
    rw [run_loop]
    generalize hL : XCode.loop xsect_Format_l0 = L
    simp only [List.length_cons] at hl hl2
    have hlt : i < N := by simp at hN; omega
    have e1 := sds_idx hv i hi
    have e2 := sds_ld hv
    have hb := hv.2 s (by simp)
    obtain ⟨o1, o2⟩ := slice_one hb
    have st := bxS_st H s o1
    have hx := bxS_ext H s
    have g := bxS_get H s
    have nE := bxS_n H s
    have hsk := hok s (by simp)
    obtain ⟨s1, s2, s3, s4, s5, s6⟩ := id hsk
    have l0 := bx4_0 g
    have l1 := bx4_1 g
    have wt := wrU8' s.tr (by omega) (by omega)
    have wn := wrU8' s.nu (by omega) (by omega)
    have w3 := wrI (i + 1) (by omega) (by omega)
    simp only [xsect_Format_l0, ofArgs, run_seq, run_block, run_ops, run_skip, run_exit, run_ret, thenQ_normal, thenQ_exit, thenQ_ret, blockQ_normal, blockQ_exit, blockQ_ret, retQ_ret, retQ_normal, ops_nil, ops_none, got_some, ops_wT, ops_wTn, ops_wF, ops_wFn, ops_wU, dops_wT, dops_wTn, dops_wF, dops_wFn, dops_wU, run_condT, run_condF, alt2_int, altB_bool, altI_int, altBB_bool, v_min, v_max, v_not, v_neg, optEv_none, optEv_some, isSome'_none, isSome'_some, pExt0, pExt1, pExt2, Bool.false_and, Bool.true_and, Bool.not_true, Bool.not_false, cond_true, cond_false, dops_nil, dops_none, xval_call, v_mov, v_bin, v_len, v_ext, v_idxA, v_ld, v_st, v_app, v_appN, v_cvs, v_bs1, pBs1, v_slc, v_conv, v_fld, v_fldA, v_new, v_box, v_mks, v_copy, v_isnil, v_nilck, v_pick, ev, evs_nil, evs_cons, fr_get_cons, fr_put_nil, fr_put_cons, fr_put_some, fr_put_none, fr_keep_nil, fr_keep_cons, fr_has_nil, fr_has_cons, Option.bind_some, Option.map_some, xbin, ibin, xresult_eq, xress_nil, xress_tmp, resV, ex_some, if_true, if_false, ite_true, ite_false, reduceIte, reduceCtorEq, Nat.reduceEqDiff, Nat.reduceLT, Nat.reduceLeDiff, Int.reduceLT, Int.reduceLE, Nat.zero_add, Nat.reduceAdd, Bool.false_eq_true, decide_eq_true_eq, decide_eq_false_iff_not, true_implies, false_implies, and_true, true_and, hlt, decide_true, e1, e2, st, fldA0, fldA1, l0, l1, pConv, wt, wn, v_bs3, altNN_int]
    generalize bxS H s = H1 at *
    -- the head
    have x2 := hext_push H1 ⟨[.int .u8 254, .int .u8 s.tr, .int .u8 s.nu], 1, false, false⟩
    have b2 : Byts (H1.push ⟨[.int .u8 254, .int .u8 s.tr, .int .u8 s.nu], 1, false, false⟩) (.slice (some ⟨H1.n, 0, none⟩) 3 3) [254, s.tr, s.nu] := Sl.pushed H1 _ 1 3 false false rfl
    have n2 : (H1.push ⟨[.int .u8 254, .int .u8 s.tr, .int .u8 s.nu], 1, false, false⟩).n = H1.n + 1 := rfl
    generalize H1.push ⟨[.int .u8 254, .int .u8 s.tr, .int .u8 s.nu], 1, false, false⟩ = H2 at *
    refine seal_ok [254, s.tr, s.nu] (by simp) (hd_b8 s hsk) _ H2 _ b2 ?_
    intro vh H3 oh x3
    have z3 := (hx.trans x2).trans x3
    have g3 := ((x2.trans x3).2 H.n (by omega)).trans g
    have l2 := bx4_2 g3
    have ps := fun H => (rfl : pBs1 (.int .u8 251) H = some (.slice (some ⟨H.n, 0, none⟩) 1 1, H.push ⟨[.int .u8 251], 1, false, false⟩))
    have x4 := hext_push H3 ⟨[.int .u8 251], 1, false, false⟩
    have n4 : (H3.push ⟨[.int .u8 251], 1, false, false⟩).n = H3.n + 1 := rfl
    have o4 : OwnB H3.n (H3.push ⟨[.int .u8 251], 1, false, false⟩) (.slice (some ⟨H3.n, 0, none⟩) 1 1) [251] := Own.pushed H3 _ 1 1 false rfl
    have g4 := (x4.2 H.n (by have := z3.1; have := x3.1; omega)).trans g3
    have l2 := bx4_2 g4
    have z4 := z3.trans x4
    have hb4 : Byts (H3.push ⟨[.int .u8 251], 1, false, false⟩) s.w s.bs := Sl.ext z4 hb
    have oh4 := Own.ext x4 oh
    simp only [ofArgs, run_seq, run_block, run_ops, run_skip, run_exit, run_ret, thenQ_normal, thenQ_exit, thenQ_ret, blockQ_normal, blockQ_exit, blockQ_ret, retQ_ret, retQ_normal, ops_nil, ops_none, got_some, ops_wT, ops_wTn, ops_wF, ops_wFn, ops_wU, dops_wT, dops_wTn, dops_wF, dops_wFn, dops_wU, run_condT, run_condF, alt2_int, altB_bool, altI_int, altBB_bool, v_min, v_max, v_not, v_neg, optEv_none, optEv_some, isSome'_none, isSome'_some, pExt0, pExt1, pExt2, Bool.false_and, Bool.true_and, Bool.not_true, Bool.not_false, cond_true, cond_false, dops_nil, dops_none, xval_call, v_mov, v_bin, v_len, v_ext, v_idxA, v_ld, v_st, v_app, v_appN, v_cvs, v_bs1, pBs1, v_slc, v_conv, v_fld, v_fldA, v_new, v_box, v_mks, v_copy, v_isnil, v_nilck, v_pick, ev, evs_nil, evs_cons, fr_get_cons, fr_put_nil, fr_put_cons, fr_put_some, fr_put_none, fr_keep_nil, fr_keep_cons, fr_has_nil, fr_has_cons, Option.bind_some, Option.map_some, xbin, ibin, xresult_eq, xress_nil, xress_tmp, resV, ex_some, if_true, if_false, ite_true, ite_false, reduceIte, reduceCtorEq, Nat.reduceEqDiff, Nat.reduceLT, Nat.reduceLeDiff, Int.reduceLT, Int.reduceLE, Nat.zero_add, Nat.reduceAdd, Bool.false_eq_true, decide_eq_true_eq, decide_eq_false_iff_not, true_implies, false_implies, and_true, true_and, v_bs1, ps, fldA2, l2]
    generalize H3.push ⟨[.int .u8 251], 1, false, false⟩ = H4 at *
    have m3 := x3.1
    have m4 := x4.1
    refine appB o4 (by omega) hb4 (by simp; omega) ?_
    intro v5 H5 o5 st5
    have k5 := st5.keep o4 (by omega)
    have z5 : HExt H H5 := Keep.trans (n0 := H.n) z4 (k5.le (by have := z3.1; omega))
    have oh5 : OwnB H2.n H5 vh (sealed [254, s.tr, s.nu]) := Own.stp st5 oh4 (fun b h1 h2 => by
      have := oh.1.lt h1
      obtain ⟨o, l, c, e⟩ := h2
      simp only [Value.slice.injEq, Option.some.injEq, Addr.mk.injEq] at e
      omega)
    refine seal_ok (251 :: s.bs) (by simp; omega) (bd_b8 s hsk) v5 H5 _ o5.1 ?_
    intro vb H6 ob x6
    have g6 : H6.get H.n = some ⟨[.int .i64 s.tr, .int .i64 s.nu, s.w, .bool s.bad], 1, false, false⟩ := (x6.2 H.n (by have := z5.1; have := k5.1; omega)).trans ((st5.get H.n (by omega) (fun h2 => by
      obtain ⟨o, l, c, e⟩ := h2
      simp only [Value.slice.injEq, Option.some.injEq, Addr.mk.injEq] at e
      omega)).trans g4)
    have z6 := z5.trans x6
    have oh6 := Own.ext x6 oh5
    have l3 := bx4_3 g6
    have n5 := st5.n
    have n6 := x6.1
    -- what follows both
    have fin : ∀ H7, OwnB H5.n H7 vb (bdS s) → Keep H5.n H6 H7 → Got (xc Try.prog tab 91 [] H7) fun vg H8 => Got (xapp H8 1 1 vh vg) fun vh' H9 => one vh' = true ∧ vcells vh' = [vh'] ∧ Got (xc Try.prog tab 91 [] H9) fun vg2 H10 => Got (xapp H10 1 1 vb vg2) fun vb' H11 => one vb' = true ∧ vcells vb' = [vb'] ∧
        Got (xapp (H11.push ⟨[.bool true, vh', .bool true, vb'], 2, false, false⟩) 2 32 vp (.slice (some ⟨H11.n, 0, none⟩) 2 2)) fun vp' H12 => Run Try.prog tab L [(2, cell), (9, vp'), (23, v), (24, .int .i64 N), (25, .int .i64 (i + 1))] H12 Q := by
      intro H7 ob7 k7
      have oh7 : OwnB H2.n H7 vh (sealed [254, s.tr, s.nu]) := Own.same oh6 k7.1 fun b h1 => k7.2 b (by have := oh5.1.lt h1; omega)
      have n7 := k7.1
      refine gap_ok H7 _ ?_
      intro vg H8 og x8
      have n8 := x8.1
      refine appB (Own.ext x8 oh7) (by omega) og.1 (by simp [sealed_len, gp]) ?_
      intro vh' H9 oh9 st9
      have n9 := st9.n
      obtain ⟨a1, a2⟩ := slice_one oh9.1
      refine ⟨a1, a2, ?_⟩
      refine gap_ok H9 _ ?_
      intro vg2 H10 og2 x10
      have n10 := x10.1
      have hvb7 : ∀ b, inB vb b → b < H7.n := fun b hb => ob7.1.lt hb
      have hvbg : ∀ b, inB vb b → H5.n ≤ b := fun b ⟨o, l, c, e⟩ => (ob7.2 b o l c e).1
      have hvhl : ∀ b, inB vh b → b < H5.n := fun b hb => oh5.1.lt hb
      have hvhg : ∀ b, inB vh b → H2.n ≤ b := fun b ⟨o, l, c, e⟩ => (oh.2 b o l c e).1
      have ob10 : OwnB H5.n H10 vb (bdS s) := Own.ext x10 (Own.stp st9 (Own.ext x8 ob7) (fun b h1 h2 => by have := hvbg b h1; have := hvhl b h2; omega))
      refine appB ob10 (by omega) og2.1 (by rw [bdS_len s hsk]; simp [gp]) ?_
      intro vb' H11 ob11 st11
      have n11 := st11.n
      have hvh' : ∀ b, inB vh' b → ¬ inB vb b := fun b h1 h2 => by
        rcases st9.new b h1 with h | h
        · have := hvhl b h; have := hvbg b h2; omega
        · have := hvb7 b h2; omega
      have oh11 : OwnB H2.n H11 vh' (sealed [254, s.tr, s.nu] ++ gp) := Own.stp st11 (Own.ext x10 oh9) hvh'
      obtain ⟨a3, a4⟩ := slice_one ob11.1
      refine ⟨a3, a4, ?_⟩
      have z7 : HExt H H7 := Keep.trans (n0 := H.n) z6 (k7.le (by have := z5.1; omega))
      have k9 := st9.keep (Own.ext x8 oh7) (by omega)
      have k11 := st11.keep ob10 (by omega)
      have zH := z3.1
      have z5n := z5.1
      have hxn := hx.1
      have z11 : HExt H H11 := Keep.trans (n0 := H.n) z7 (Keep.trans (HExt.keep x8 (by omega)) (Keep.trans (k9.le (by omega)) (Keep.trans (HExt.keep x10 (by omega)) (k11.le (by omega)))))
      have o11 := ho.ext z11
      have hvpl : ∀ b, inB vp b → b < H.n := fun b hb => ho.own.1.lt hb
      refine OL.push [(true, hdS s ++ gp, vh'), (true, bdS s ++ gp, vb')] o11.own (by have := z11.1; omega) (by show ([.bool true, vh', .bool true, vb'] : List Value).all one = true; simp [a1, a3, show one (.bool true) = true from rfl]) 32 (by decide) (by simp; omega) ?_
      intro vp' H12 o12 k12 g12 new12 n12
      subst hL
      have z12 : HExt H11 H12 → True := fun _ => trivial
      have sl12 : ∀ (w : Value) (l : List Int), Byts H11 w l → (∀ b, inB w b → ¬ inB vp b) → Byts H12 w l := fun w l h1 h2 => Sl.same h1 n12 fun b hb => g12 b (h1.lt hb) (h2 b hb)
      have hvhge : ∀ b, inB vh' b → H2.n ≤ b := fun b ⟨o, l, c, e⟩ => (oh11.2 b o l c e).1
      have hvbge : ∀ b, inB vb' b → H5.n ≤ b := fun b ⟨o, l, c, e⟩ => (ob11.2 b o l c e).1
      have hvhb : ∀ b, inB vh' b → ¬ inB vp b := fun b h1 h2 => by have := hvpl b h2; have := hvhge b h1; omega
      have hvbb : ∀ b, inB vb' b → ¬ inB vp b := fun b h1 h2 => by have := hvpl b h2; have := hvbge b h1; omega
      have of12 : OutF n1 H12 vp' (lp ++ [(true, hdS s ++ gp, vh'), (true, bdS s ++ gp, vb')]) := by
        refine ⟨o12, fun p hp => ?_, fun p hp b hb hv' => ?_⟩
        · rcases List.mem_append.1 hp with h | h
          · exact sl12 _ _ (o11.byt p h) (ho.dis p h)
          · simp only [List.mem_cons, List.not_mem_nil, or_false] at h
            rcases h with rfl | rfl
            · exact sl12 _ _ oh11.1 hvhb
            · exact sl12 _ _ ob11.1 hvbb
        · have hb11 : b < H11.n := by
            rcases List.mem_append.1 hp with h | h
            · exact (o11.byt p h).lt hb
            · simp only [List.mem_cons, List.not_mem_nil, or_false] at h
              rcases h with rfl | rfl
              · exact oh11.1.lt hb
              · exact ob11.1.lt hb
          rcases new12 b hv' with h2 | h2
          · rcases List.mem_append.1 hp with h | h
            · exact ho.dis p h b hb h2
            · simp only [List.mem_cons, List.not_mem_nil, or_false] at h
              rcases h with rfl | rfl
              · exact hvhb b hb h2
              · exact hvbb b hb h2
          · omega
      have kH : Keep n1 H H12 := Keep.trans (HExt.keep z11 hn) k12
      refine ih (pre ++ [s]) _ vp' H12 (i + 1) N Q ⟨by rw [← List.append_cons]; exact Sl.keep kH hv.1 hvb, by rw [← List.append_cons]; exact fun y hy => Sl.keep kH (hv.2 y hy) (hwb y hy)⟩ hvb (by rw [← List.append_cons]; exact hwb) of12 (by have := kH.1; omega) (fun y hy => hok y (by simp [hy])) (by simp; omega) (by simp; omega) (by simp; omega) (by simpa using hN) ?_
      intro H13 vp3 lp3 o13 hm13 k13
      refine hq H13 vp3 lp3 o13 ?_ (kH.trans k13)
      rw [hm13]
      simp [strip, ptS, List.flatMap_cons]
    have hlen6 := byts_len' ob.1
    have hlenv : (sealed (251 :: s.bs)).length = 131 := by rw [sealed_len, List.length_cons, s5]
    rw [hlenv] at hlen6
    have done : ∀ {P1 : Value → AH → Prop} (H7 : AH), OwnB H5.n H7 vb (bdS s) → Keep H5.n H6 H7 → (∀ vg H8, (Got (xapp H8 1 1 vh vg) fun vh' H9 => one vh' = true ∧ vcells vh' = [vh'] ∧ Got (xc Try.prog tab 91 [] H9) fun vg2 H10 => Got (xapp H10 1 1 vb vg2) fun vb' H11 => one vb' = true ∧ vcells vb' = [vb'] ∧
        Got (xapp (H11.push ⟨[.bool true, vh', .bool true, vb'], 2, false, false⟩) 2 32 vp (.slice (some ⟨H11.n, 0, none⟩) 2 2)) fun vp' H12 => Run Try.prog tab L [(2, cell), (9, vp'), (23, v), (24, .int .i64 N), (25, .int .i64 (i + 1))] H12 Q) → P1 vg H8) → Got (xc Try.prog tab 91 [] H7) P1 := fun H7 h1 h2 h3 => (fin H7 h1 h2).mono h3
    clear fin
    have close : ∀ H7, OwnB H5.n H7 vb (bdS s) → Keep H5.n H6 H7 → Run Try.prog tab (.ops [⟨some 52, .mov (.tmp 9), none⟩, ⟨some 53, .mov (.tmp 12), none⟩, ⟨some 54, .call 91 [], none⟩, ⟨some 55, .app 5 1 1 [.int .u8 0] (.tmp 53) (.tmp 54), none⟩, ⟨some 56, .build [.bool false, .slice none 0 0] [(0, 1, .const (.bool true)), (1, 1, .tmp 55)], none⟩, ⟨some 57, .mov (.tmp 13), none⟩, ⟨some 58, .call 91 [], none⟩, ⟨some 59, .app 5 1 1 [.int .u8 0] (.tmp 57) (.tmp 58), none⟩, ⟨some 60, .build [.bool false, .slice none 0 0] [(0, 1, .const (.bool true)), (1, 1, .tmp 59)], none⟩, ⟨some 61, .bslice 55 2 2 [.bool false, .slice none 0 0] [(0, .tmp 56), (1, .tmp 60)], none⟩, ⟨some 62, .app 55 2 32 [.bool false, .slice none 0 0] (.tmp 52) (.tmp 61), none⟩, ⟨some 9, .mov (.tmp 62), none⟩] [2, 9, 23, 24, 25]) [(2, cell), (9, vp), (12, vh), (13, vb), (23, v), (24, .int .i64 N), (25, .int .i64 i)] H7 (fun e fr H => thenQ (fun fr H => Run Try.prog tab (.ops [⟨some 63, .bin .add (.tmp 25) (.const (.int .i64 1)), none⟩, ⟨some 25, .mov (.tmp 63), none⟩] [2, 9, 23, 24, 25]) fr H (thenQ (fun fr H => Run Try.prog tab L fr H Q) Q)) (thenQ (fun fr H => Run Try.prog tab L fr H Q) Q) e fr H) := by
      intro H7 h1 h2
      simp only [ofArgs, run_seq, run_block, run_ops, run_skip, run_exit, run_ret, thenQ_normal, thenQ_exit, thenQ_ret, blockQ_normal, blockQ_exit, blockQ_ret, retQ_ret, retQ_normal, ops_nil, ops_none, got_some, ops_wT, ops_wTn, ops_wF, ops_wFn, ops_wU, dops_wT, dops_wTn, dops_wF, dops_wFn, dops_wU, run_condT, run_condF, alt2_int, altB_bool, altI_int, altBB_bool, v_min, v_max, v_not, v_neg, optEv_none, optEv_some, isSome'_none, isSome'_some, pExt0, pExt1, pExt2, Bool.false_and, Bool.true_and, Bool.not_true, Bool.not_false, cond_true, cond_false, dops_nil, dops_none, xval_call, v_mov, v_bin, v_len, v_ext, v_idxA, v_ld, v_st, v_app, v_appN, v_cvs, v_bs1, pBs1, v_slc, v_conv, v_fld, v_fldA, v_new, v_box, v_mks, v_copy, v_isnil, v_nilck, v_pick, ev, evs_nil, evs_cons, fr_get_cons, fr_put_nil, fr_put_cons, fr_put_some, fr_put_none, fr_keep_nil, fr_keep_cons, fr_has_nil, fr_has_cons, Option.bind_some, Option.map_some, xbin, ibin, xresult_eq, xress_nil, xress_tmp, resV, ex_some, if_true, if_false, ite_true, ite_false, reduceIte, reduceCtorEq, Nat.reduceEqDiff, Nat.reduceLT, Nat.reduceLeDiff, Int.reduceLT, Int.reduceLE, Nat.zero_add, Nat.reduceAdd, Bool.false_eq_true, decide_eq_true_eq, decide_eq_false_iff_not, true_implies, false_implies, and_true, true_and]
      refine done H7 h1 h2 ?_
      intro vg H8 hg
      refine hg.mono ?_
      rintro vh' H9 ⟨a1, a2, hg9⟩
      have p1 := fun H => pB2_of (.bool true) vh' H a1 a2
      simp only [ofArgs, run_seq, run_block, run_ops, run_skip, run_exit, run_ret, thenQ_normal, thenQ_exit, thenQ_ret, blockQ_normal, blockQ_exit, blockQ_ret, retQ_ret, retQ_normal, ops_nil, ops_none, got_some, ops_wT, ops_wTn, ops_wF, ops_wFn, ops_wU, dops_wT, dops_wTn, dops_wF, dops_wFn, dops_wU, run_condT, run_condF, alt2_int, altB_bool, altI_int, altBB_bool, v_min, v_max, v_not, v_neg, optEv_none, optEv_some, isSome'_none, isSome'_some, pExt0, pExt1, pExt2, Bool.false_and, Bool.true_and, Bool.not_true, Bool.not_false, cond_true, cond_false, dops_nil, dops_none, xval_call, v_mov, v_bin, v_len, v_ext, v_idxA, v_ld, v_st, v_app, v_appN, v_cvs, v_bs1, pBs1, v_slc, v_conv, v_fld, v_fldA, v_new, v_box, v_mks, v_copy, v_isnil, v_nilck, v_pick, ev, evs_nil, evs_cons, fr_get_cons, fr_put_nil, fr_put_cons, fr_put_some, fr_put_none, fr_keep_nil, fr_keep_cons, fr_has_nil, fr_has_cons, Option.bind_some, Option.map_some, xbin, ibin, xresult_eq, xress_nil, xress_tmp, resV, ex_some, if_true, if_false, ite_true, ite_false, reduceIte, reduceCtorEq, Nat.reduceEqDiff, Nat.reduceLT, Nat.reduceLeDiff, Int.reduceLT, Int.reduceLE, Nat.zero_add, Nat.reduceAdd, Bool.false_eq_true, decide_eq_true_eq, decide_eq_false_iff_not, true_implies, false_implies, and_true, true_and, v_b2t, p1]
      refine hg9.mono ?_
      intro vg2 H10 hg10
      refine hg10.mono ?_
      rintro vb' H11 ⟨a3, a4, hg11⟩
      have p2 := fun H => pB2_of (.bool true) vb' H a3 a4
      have aa := fun f z => altAA_val true true vh' vb' a1 a3 f z
      simp only [ofArgs, run_seq, run_block, run_ops, run_skip, run_exit, run_ret, thenQ_normal, thenQ_exit, thenQ_ret, blockQ_normal, blockQ_exit, blockQ_ret, retQ_ret, retQ_normal, ops_nil, ops_none, got_some, ops_wT, ops_wTn, ops_wF, ops_wFn, ops_wU, dops_wT, dops_wTn, dops_wF, dops_wFn, dops_wU, run_condT, run_condF, alt2_int, altB_bool, altI_int, altBB_bool, v_min, v_max, v_not, v_neg, optEv_none, optEv_some, isSome'_none, isSome'_some, pExt0, pExt1, pExt2, Bool.false_and, Bool.true_and, Bool.not_true, Bool.not_false, cond_true, cond_false, dops_nil, dops_none, xval_call, v_mov, v_bin, v_len, v_ext, v_idxA, v_ld, v_st, v_app, v_appN, v_cvs, v_bs1, pBs1, v_slc, v_conv, v_fld, v_fldA, v_new, v_box, v_mks, v_copy, v_isnil, v_nilck, v_pick, ev, evs_nil, evs_cons, fr_get_cons, fr_put_nil, fr_put_cons, fr_put_some, fr_put_none, fr_keep_nil, fr_keep_cons, fr_has_nil, fr_has_cons, Option.bind_some, Option.map_some, xbin, ibin, xresult_eq, xress_nil, xress_tmp, resV, ex_some, if_true, if_false, ite_true, ite_false, reduceIte, reduceCtorEq, Nat.reduceEqDiff, Nat.reduceLT, Nat.reduceLeDiff, Int.reduceLT, Int.reduceLE, Nat.zero_add, Nat.reduceAdd, Bool.false_eq_true, decide_eq_true_eq, decide_eq_false_iff_not, true_implies, false_implies, and_true, true_and, v_b2t, p2, v_bs22, aa]
      refine hg11.mono ?_
      intro vp' H12 hr
      simp only [ofArgs, run_seq, run_block, run_ops, run_skip, run_exit, run_ret, thenQ_normal, thenQ_exit, thenQ_ret, blockQ_normal, blockQ_exit, blockQ_ret, retQ_ret, retQ_normal, ops_nil, ops_none, got_some, ops_wT, ops_wTn, ops_wF, ops_wFn, ops_wU, dops_wT, dops_wTn, dops_wF, dops_wFn, dops_wU, run_condT, run_condF, alt2_int, altB_bool, altI_int, altBB_bool, v_min, v_max, v_not, v_neg, optEv_none, optEv_some, isSome'_none, isSome'_some, pExt0, pExt1, pExt2, Bool.false_and, Bool.true_and, Bool.not_true, Bool.not_false, cond_true, cond_false, dops_nil, dops_none, xval_call, v_mov, v_bin, v_len, v_ext, v_idxA, v_ld, v_st, v_app, v_appN, v_cvs, v_bs1, pBs1, v_slc, v_conv, v_fld, v_fldA, v_new, v_box, v_mks, v_copy, v_isnil, v_nilck, v_pick, ev, evs_nil, evs_cons, fr_get_cons, fr_put_nil, fr_put_cons, fr_put_some, fr_put_none, fr_keep_nil, fr_keep_cons, fr_has_nil, fr_has_cons, Option.bind_some, Option.map_some, xbin, ibin, xresult_eq, xress_nil, xress_tmp, resV, ex_some, if_true, if_false, ite_true, ite_false, reduceIte, reduceCtorEq, Nat.reduceEqDiff, Nat.reduceLT, Nat.reduceLeDiff, Int.reduceLT, Int.reduceLE, Nat.zero_add, Nat.reduceAdd, Bool.false_eq_true, decide_eq_true_eq, decide_eq_false_iff_not, true_implies, false_implies, and_true, true_and, w3]
      exact hr
    cases hbad : s.bad with
    | false =>
      have ebd : bdS s = sealed (251 :: s.bs) := by unfold bdS; rw [hbad]; rfl
      rw [hbad] at l3
      have cl := close H6 (by rw [ebd]; exact ob) (.refl _ _)
      simp only [ofArgs, run_seq, run_block, run_ops, run_skip, run_exit, run_ret, thenQ_normal, thenQ_exit, thenQ_ret, blockQ_normal, blockQ_exit, blockQ_ret, retQ_ret, retQ_normal, ops_nil, ops_none, got_some, ops_wT, ops_wTn, ops_wF, ops_wFn, ops_wU, dops_wT, dops_wTn, dops_wF, dops_wFn, dops_wU, run_condT, run_condF, alt2_int, altB_bool, altI_int, altBB_bool, v_min, v_max, v_not, v_neg, optEv_none, optEv_some, isSome'_none, isSome'_some, pExt0, pExt1, pExt2, Bool.false_and, Bool.true_and, Bool.not_true, Bool.not_false, cond_true, cond_false, dops_nil, dops_none, xval_call, v_mov, v_bin, v_len, v_ext, v_idxA, v_ld, v_st, v_app, v_appN, v_cvs, v_bs1, pBs1, v_slc, v_conv, v_fld, v_fldA, v_new, v_box, v_mks, v_copy, v_isnil, v_nilck, v_pick, ev, evs_nil, evs_cons, fr_get_cons, fr_put_nil, fr_put_cons, fr_put_some, fr_put_none, fr_keep_nil, fr_keep_cons, fr_has_nil, fr_has_cons, Option.bind_some, Option.map_some, xbin, ibin, xresult_eq, xress_nil, xress_tmp, resV, ex_some, if_true, if_false, ite_true, ite_false, reduceIte, reduceCtorEq, Nat.reduceEqDiff, Nat.reduceLT, Nat.reduceLeDiff, Int.reduceLT, Int.reduceLE, Nat.zero_add, Nat.reduceAdd, Bool.false_eq_true, decide_eq_true_eq, decide_eq_false_iff_not, true_implies, false_implies, and_true, true_and] at cl
      simp only [ofArgs, run_seq, run_block, run_ops, run_skip, run_exit, run_ret, thenQ_normal, thenQ_exit, thenQ_ret, blockQ_normal, blockQ_exit, blockQ_ret, retQ_ret, retQ_normal, ops_nil, ops_none, got_some, ops_wT, ops_wTn, ops_wF, ops_wFn, ops_wU, dops_wT, dops_wTn, dops_wF, dops_wFn, dops_wU, run_condT, run_condF, alt2_int, altB_bool, altI_int, altBB_bool, v_min, v_max, v_not, v_neg, optEv_none, optEv_some, isSome'_none, isSome'_some, pExt0, pExt1, pExt2, Bool.false_and, Bool.true_and, Bool.not_true, Bool.not_false, cond_true, cond_false, dops_nil, dops_none, xval_call, v_mov, v_bin, v_len, v_ext, v_idxA, v_ld, v_st, v_app, v_appN, v_cvs, v_bs1, pBs1, v_slc, v_conv, v_fld, v_fldA, v_new, v_box, v_mks, v_copy, v_isnil, v_nilck, v_pick, ev, evs_nil, evs_cons, fr_get_cons, fr_put_nil, fr_put_cons, fr_put_some, fr_put_none, fr_keep_nil, fr_keep_cons, fr_has_nil, fr_has_cons, Option.bind_some, Option.map_some, xbin, ibin, xresult_eq, xress_nil, xress_tmp, resV, ex_some, if_true, if_false, ite_true, ite_false, reduceIte, reduceCtorEq, Nat.reduceEqDiff, Nat.reduceLT, Nat.reduceLeDiff, Int.reduceLT, Int.reduceLE, Nat.zero_add, Nat.reduceAdd, Bool.false_eq_true, decide_eq_true_eq, decide_eq_false_iff_not, true_implies, false_implies, and_true, true_and, fldA3, l3]
      exact cl
    | true =>
      have ebd : bdS s = flipl (sealed (251 :: s.bs)) := by unfold bdS; rw [hbad]; rfl
      rw [hbad] at l3
      have w130 : IntKind.i64.wrap (((131 : Nat) : Int) - 1) = 130 := rfl
      have e3 := byts_idx ob.1 130 130 rfl (by rw [hlenv]; omega)
      have e4 := byts_ld ob.1 130 _ (getD_get _ 130 (by rw [hlenv]; omega))
      have hb8 := b8_get _ (sealed_b8 _ (bd_b8 s hsk)) 130
      have ex := b_xor ((sealed (251 :: s.bs)).getD 130 0).toNat 255 (by omega) (by omega)
      have ec : ((((sealed (251 :: s.bs)).getD 130 0).toNat : Nat) : Int) = (sealed (251 :: s.bs)).getD 130 0 := by omega
      have e255 : ((255 : Nat) : Int) = 255 := rfl
      rw [ec, e255] at ex
      have efl : flipl (sealed (251 :: s.bs)) = (sealed (251 :: s.bs)).set 130 ((((sealed (251 :: s.bs)).getD 130 0).toNat ^^^ 255 : Nat) : Int) := by
        unfold flipl; rw [hlenv]
      simp only [ofArgs, run_seq, run_block, run_ops, run_skip, run_exit, run_ret, thenQ_normal, thenQ_exit, thenQ_ret, blockQ_normal, blockQ_exit, blockQ_ret, retQ_ret, retQ_normal, ops_nil, ops_none, got_some, ops_wT, ops_wTn, ops_wF, ops_wFn, ops_wU, dops_wT, dops_wTn, dops_wF, dops_wFn, dops_wU, run_condT, run_condF, alt2_int, altB_bool, altI_int, altBB_bool, v_min, v_max, v_not, v_neg, optEv_none, optEv_some, isSome'_none, isSome'_some, pExt0, pExt1, pExt2, Bool.false_and, Bool.true_and, Bool.not_true, Bool.not_false, cond_true, cond_false, dops_nil, dops_none, xval_call, v_mov, v_bin, v_len, v_ext, v_idxA, v_ld, v_st, v_app, v_appN, v_cvs, v_bs1, pBs1, v_slc, v_conv, v_fld, v_fldA, v_new, v_box, v_mks, v_copy, v_isnil, v_nilck, v_pick, ev, evs_nil, evs_cons, fr_get_cons, fr_put_nil, fr_put_cons, fr_put_some, fr_put_none, fr_keep_nil, fr_keep_cons, fr_has_nil, fr_has_cons, Option.bind_some, Option.map_some, xbin, ibin, xresult_eq, xress_nil, xress_tmp, resV, ex_some, if_true, if_false, ite_true, ite_false, reduceIte, reduceCtorEq, Nat.reduceEqDiff, Nat.reduceLT, Nat.reduceLeDiff, Int.reduceLT, Int.reduceLE, Nat.zero_add, Nat.reduceAdd, Bool.false_eq_true, decide_eq_true_eq, decide_eq_false_iff_not, true_implies, false_implies, and_true, true_and, fldA3, l3, hlen6, w130, e3, e4, ex]
      refine OwnB.flip ob (by rw [hlenv]; omega) ?_
      intro H7 ob7 st7
      rw [← efl, ← ebd] at ob7
      have cl := close H7 ob7 (st7.keep ob (by omega))
      simp only [ofArgs, run_seq, run_block, run_ops, run_skip, run_exit, run_ret, thenQ_normal, thenQ_exit, thenQ_ret, blockQ_normal, blockQ_exit, blockQ_ret, retQ_ret, retQ_normal, ops_nil, ops_none, got_some, ops_wT, ops_wTn, ops_wF, ops_wFn, ops_wU, dops_wT, dops_wTn, dops_wF, dops_wFn, dops_wU, run_condT, run_condF, alt2_int, altB_bool, altI_int, altBB_bool, v_min, v_max, v_not, v_neg, optEv_none, optEv_some, isSome'_none, isSome'_some, pExt0, pExt1, pExt2, Bool.false_and, Bool.true_and, Bool.not_true, Bool.not_false, cond_true, cond_false, dops_nil, dops_none, xval_call, v_mov, v_bin, v_len, v_ext, v_idxA, v_ld, v_st, v_app, v_appN, v_cvs, v_bs1, pBs1, v_slc, v_conv, v_fld, v_fldA, v_new, v_box, v_mks, v_copy, v_isnil, v_nilck, v_pick, ev, evs_nil, evs_cons, fr_get_cons, fr_put_nil, fr_put_cons, fr_put_some, fr_put_none, fr_keep_nil, fr_keep_cons, fr_has_nil, fr_has_cons, Option.bind_some, Option.map_some, xbin, ibin, xresult_eq, xress_nil, xress_tmp, resV, ex_some, if_true, if_false, ite_true, ite_false, reduceIte, reduceCtorEq, Nat.reduceEqDiff, Nat.reduceLT, Nat.reduceLeDiff, Int.reduceLT, Int.reduceLE, Nat.zero_add, Nat.reduceAdd, Bool.false_eq_true, decide_eq_true_eq, decide_eq_false_iff_not, true_implies, false_implies, and_true, true_and] at cl
      exact cl
end Go.Proofs.Ytejedmocjdcdgaa.D

set_option linter.unusedSimpArgs false
set_option linter.unusedVariables false
namespace Go.Proofs.Ytejedmocjdcdgaa.D
open Go Go.Det

theorem flat_parts (l : List T3) (hcan : Canon (l.map strip)) : ∀ p ∈ l, B8 p.2.1 := fun p hp => hcan.1 (strip p) (List.mem_map_of_mem hp)
theorem fmtP_len (l : List SD) : (fmtP l).length = 1 + 2 * l.length := by
  have key : (l.flatMap ptS).length = 2 * l.length := by
    induction l with
    | nil => rfl
    | cons s l ih => rw [List.flatMap_cons, List.length_append, ih]; simp [ptS]; omega
  unfold fmtP
  rw [List.length_cons, key]; omega
set_option maxHeartbeats 2000000 in
theorem format_ok (tr : Int) (h0 : 0 ≤ tr) (h1 : tr < 20) (l : List SD) (v : Value) (cell : Int) (H : AH) (Q : Value → AH → Prop) (hv : SDs H v l) (hok : ∀ s ∈ l, SdOk s) (hl : l.length ≤ 12) (hc : 2 ≤ cell) (hc2 : cell ≤ 1000)
    (hq : ∀ vt H', OwnI H.n H' vt (pul cell (gaps (fullI (itemsL (fmtP l)))).1) → HExt H H' → Q (.tuple [vt, .int .i64 0].toArray) H') : Got (xc Try.prog tab 43 [.int .i64 tr, v, .int .i64 cell] H) Q := by
  refine got_call (res := [.tmp 6, .tmp 7]) rfl ?_
  generalize hT : ((.seq (.ops [⟨some 20, .call 91 [], none⟩, ⟨some 21, .build [.bool false, .slice none 0 0] [(1, 1, .tmp 20)], none⟩, ⟨some 22, .bslice 55 2 1 [.bool false, .slice none 0 0] [(0, .tmp 21)], none⟩, ⟨some 9, .mov (.tmp 22), none⟩] [1, 2, 9]) (.seq (.seq (.ops [⟨some 23, .mov (.tmp 1), none⟩, ⟨some 24, .len (.tmp 23), none⟩, ⟨some 25, .mov (.const (.int .i64 0)), none⟩] [2, 9, 23, 24, 25]) (.block 0 (.loop xsect_Format_l0))) (.seq (.ops [⟨some 64, .mov (.tmp 9), none⟩, ⟨some 65, .mov (.tmp 2), none⟩, ⟨some 66, .call 29 [.tmp 64, .tmp 65], none⟩, ⟨some 67, .ext (.tmp 66) 0, none⟩, ⟨some 68, .ext (.tmp 66) 1, none⟩, ⟨some 6, .mov (.tmp 67), none⟩, ⟨some 7, .mov (.tmp 68), none⟩] [6, 7]) .ret))) : XCode) = T
  simp only [ofArgs, run_seq, run_block, run_ops, run_skip, run_exit, run_ret, thenQ_normal, thenQ_exit, thenQ_ret, blockQ_normal, blockQ_exit, blockQ_ret, retQ_ret, retQ_normal, ops_nil, ops_none, got_some, ops_wT, ops_wTn, ops_wF, ops_wFn, ops_wU, dops_wT, dops_wTn, dops_wF, dops_wFn, dops_wU, run_condT, run_condF, alt2_int, altB_bool, altI_int, altBB_bool, v_min, v_max, v_not, v_neg, optEv_none, optEv_some, isSome'_none, isSome'_some, pExt0, pExt1, pExt2, Bool.false_and, Bool.true_and, Bool.not_true, Bool.not_false, cond_true, cond_false, dops_nil, dops_none, xval_call, v_mov, v_bin, v_len, v_ext, v_idxA, v_ld, v_st, v_app, v_appN, v_cvs, v_bs1, pBs1, v_slc, v_conv, v_fld, v_fldA, v_new, v_box, v_mks, v_copy, v_isnil, v_nilck, v_pick, ev, evs_nil, evs_cons, fr_get_cons, fr_put_nil, fr_put_cons, fr_put_some, fr_put_none, fr_keep_nil, fr_keep_cons, fr_has_nil, fr_has_cons, Option.bind_some, Option.map_some, xbin, ibin, xresult_eq, xress_nil, xress_tmp, resV, ex_some, if_true, if_false, ite_true, ite_false, reduceIte, reduceCtorEq, Nat.reduceEqDiff, Nat.reduceLT, Nat.reduceLeDiff, Int.reduceLT, Int.reduceLE, Nat.zero_add, Nat.reduceAdd, Bool.false_eq_true, decide_eq_true_eq, decide_eq_false_iff_not, true_implies, false_implies, and_true, true_and]
  refine scheck_ok tr h0 h1 v l H _ hv hok hl ?_
  intro H1 x1
  subst hT
  generalize hT : ((.seq (.seq (.ops [⟨some 23, .mov (.tmp 1), none⟩, ⟨some 24, .len (.tmp 23), none⟩, ⟨some 25, .mov (.const (.int .i64 0)), none⟩] [2, 9, 23, 24, 25]) (.block 0 (.loop xsect_Format_l0))) (.seq (.ops [⟨some 64, .mov (.tmp 9), none⟩, ⟨some 65, .mov (.tmp 2), none⟩, ⟨some 66, .call 29 [.tmp 64, .tmp 65], none⟩, ⟨some 67, .ext (.tmp 66) 0, none⟩, ⟨some 68, .ext (.tmp 66) 1, none⟩, ⟨some 6, .mov (.tmp 67), none⟩, ⟨some 7, .mov (.tmp 68), none⟩] [6, 7]) .ret)) : XCode) = T
  simp only [ofArgs, run_seq, run_block, run_ops, run_skip, run_exit, run_ret, thenQ_normal, thenQ_exit, thenQ_ret, blockQ_normal, blockQ_exit, blockQ_ret, retQ_ret, retQ_normal, ops_nil, ops_none, got_some, ops_wT, ops_wTn, ops_wF, ops_wFn, ops_wU, dops_wT, dops_wTn, dops_wF, dops_wFn, dops_wU, run_condT, run_condF, alt2_int, altB_bool, altI_int, altBB_bool, v_min, v_max, v_not, v_neg, optEv_none, optEv_some, isSome'_none, isSome'_some, pExt0, pExt1, pExt2, Bool.false_and, Bool.true_and, Bool.not_true, Bool.not_false, cond_true, cond_false, dops_nil, dops_none, xval_call, v_mov, v_bin, v_len, v_ext, v_idxA, v_ld, v_st, v_app, v_appN, v_cvs, v_bs1, pBs1, v_slc, v_conv, v_fld, v_fldA, v_new, v_box, v_mks, v_copy, v_isnil, v_nilck, v_pick, ev, evs_nil, evs_cons, fr_get_cons, fr_put_nil, fr_put_cons, fr_put_some, fr_put_none, fr_keep_nil, fr_keep_cons, fr_has_nil, fr_has_cons, Option.bind_some, Option.map_some, xbin, ibin, xresult_eq, xress_nil, xress_tmp, resV, ex_some, if_true, if_false, ite_true, ite_false, reduceIte, reduceCtorEq, Nat.reduceEqDiff, Nat.reduceLT, Nat.reduceLeDiff, Int.reduceLT, Int.reduceLE, Nat.zero_add, Nat.reduceAdd, Bool.false_eq_true, decide_eq_true_eq, decide_eq_false_iff_not, true_implies, false_implies, and_true, true_and, bne_self_eq_false]
  refine gap_ok H1 _ ?_
  intro vg H2 og x2
  obtain ⟨s1, s2⟩ := slice_one og.1
  have pb := fun H => pB2_of (.bool false) vg H s1 s2
  have ps := fun H => pS2_of false vg H s1
  have x3 := hext_push H2 ⟨[.bool false, vg], 2, false, false⟩
  have n3 : (H2.push ⟨[.bool false, vg], 2, false, false⟩).n = H2.n + 1 := rfl
  have ol : OL PTL H2.n (H2.push ⟨[.bool false, vg], 2, false, false⟩) (.slice (some ⟨H2.n, 0, none⟩) 1 1) [(false, gp, vg)] := Own.pushed H2 [.bool false, vg] 2 1 false rfl
  have x13 := (x1.trans x2).trans x3
  have hv3 := hv.ext x13
  have e0 := hv3.1.len_ok
  have og3 := Own.ext x3 og
  subst hT
  generalize hT : ((.seq (.ops [⟨some 64, .mov (.tmp 9), none⟩, ⟨some 65, .mov (.tmp 2), none⟩, ⟨some 66, .call 29 [.tmp 64, .tmp 65], none⟩, ⟨some 67, .ext (.tmp 66) 0, none⟩, ⟨some 68, .ext (.tmp 66) 1, none⟩, ⟨some 6, .mov (.tmp 67), none⟩, ⟨some 7, .mov (.tmp 68), none⟩] [6, 7]) .ret) : XCode) = T
  simp only [ofArgs, run_seq, run_block, run_ops, run_skip, run_exit, run_ret, thenQ_normal, thenQ_exit, thenQ_ret, blockQ_normal, blockQ_exit, blockQ_ret, retQ_ret, retQ_normal, ops_nil, ops_none, got_some, ops_wT, ops_wTn, ops_wF, ops_wFn, ops_wU, dops_wT, dops_wTn, dops_wF, dops_wFn, dops_wU, run_condT, run_condF, alt2_int, altB_bool, altI_int, altBB_bool, v_min, v_max, v_not, v_neg, optEv_none, optEv_some, isSome'_none, isSome'_some, pExt0, pExt1, pExt2, Bool.false_and, Bool.true_and, Bool.not_true, Bool.not_false, cond_true, cond_false, dops_nil, dops_none, xval_call, v_mov, v_bin, v_len, v_ext, v_idxA, v_ld, v_st, v_app, v_appN, v_cvs, v_bs1, pBs1, v_slc, v_conv, v_fld, v_fldA, v_new, v_box, v_mks, v_copy, v_isnil, v_nilck, v_pick, ev, evs_nil, evs_cons, fr_get_cons, fr_put_nil, fr_put_cons, fr_put_some, fr_put_none, fr_keep_nil, fr_keep_cons, fr_has_nil, fr_has_cons, Option.bind_some, Option.map_some, xbin, ibin, xresult_eq, xress_nil, xress_tmp, resV, ex_some, if_true, if_false, ite_true, ite_false, reduceIte, reduceCtorEq, Nat.reduceEqDiff, Nat.reduceLT, Nat.reduceLeDiff, Int.reduceLT, Int.reduceLE, Nat.zero_add, Nat.reduceAdd, Bool.false_eq_true, decide_eq_true_eq, decide_eq_false_iff_not, true_implies, false_implies, and_true, true_and, v_b2, pb, v_bs21, ps, e0]
  generalize H2.push ⟨[.bool false, vg], 2, false, false⟩ = H3 at *
  have m1 := x1.1
  have m2 := x2.1
  have of3 : OutF H.n H3 (.slice (some ⟨H2.n, 0, none⟩) 1 1) [(false, gp, vg)] := ⟨ol.le (by omega), fun p hp => by simp only [List.mem_singleton] at hp; subst hp; exact og3.1, fun p hp b hb hv' => by
    simp only [List.mem_singleton] at hp; subst hp
    have := og.1.lt hb
    obtain ⟨o, a, c, e⟩ := hv'
    simp only [Value.slice.injEq, Option.some.injEq, Addr.mk.injEq] at e
    omega⟩
  refine fmt_l0 H.n (.int .i64 cell) v l [] [(false, gp, vg)] _ H3 0 _ _ (by simpa using hv3) (fun b hb => hv.1.lt hb) (fun s hs b hb => (hv.2 s (by simpa using hs)).lt hb) of3 (by omega) hok (by simp; omega) (by simp; omega) (by simp) (by simp) ?_
  intro H4 vp lp of4 hm k4
  have hm' : lp.map strip = fmtP l := hm
  have can := fmt_canon l hok
  have hll : lp.length = 1 + 2 * l.length := by have := congrArg List.length hm'; rw [List.length_map, fmtP_len] at this; exact this
  have hsz : szT lp = 8 + 154 * l.length := by unfold szT; rw [hm']; exact fmt_sz l hok
  subst hT
  simp only [ofArgs, run_seq, run_block, run_ops, run_skip, run_exit, run_ret, thenQ_normal, thenQ_exit, thenQ_ret, blockQ_normal, blockQ_exit, blockQ_ret, retQ_ret, retQ_normal, ops_nil, ops_none, got_some, ops_wT, ops_wTn, ops_wF, ops_wFn, ops_wU, dops_wT, dops_wTn, dops_wF, dops_wFn, dops_wU, run_condT, run_condF, alt2_int, altB_bool, altI_int, altBB_bool, v_min, v_max, v_not, v_neg, optEv_none, optEv_some, isSome'_none, isSome'_some, pExt0, pExt1, pExt2, Bool.false_and, Bool.true_and, Bool.not_true, Bool.not_false, cond_true, cond_false, dops_nil, dops_none, xval_call, v_mov, v_bin, v_len, v_ext, v_idxA, v_ld, v_st, v_app, v_appN, v_cvs, v_bs1, pBs1, v_slc, v_conv, v_fld, v_fldA, v_new, v_box, v_mks, v_copy, v_isnil, v_nilck, v_pick, ev, evs_nil, evs_cons, fr_get_cons, fr_put_nil, fr_put_cons, fr_put_some, fr_put_none, fr_keep_nil, fr_keep_cons, fr_has_nil, fr_has_cons, Option.bind_some, Option.map_some, xbin, ibin, xresult_eq, xress_nil, xress_tmp, resV, ex_some, if_true, if_false, ite_true, ite_false, reduceIte, reduceCtorEq, Nat.reduceEqDiff, Nat.reduceLT, Nat.reduceLeDiff, Int.reduceLT, Int.reduceLE, Nat.zero_add, Nat.reduceAdd, Bool.false_eq_true, decide_eq_true_eq, decide_eq_false_iff_not, true_implies, false_implies, and_true, true_and]
  refine writeP_ok lp vp cell H4 _ of4.rp (flat_parts lp (by rw [hm']; exact can)) (by omega) (by omega) hc hc2 ?_
  rw [hm']
  intro vt H5 ot x5
  simp only [ofArgs, run_seq, run_block, run_ops, run_skip, run_exit, run_ret, thenQ_normal, thenQ_exit, thenQ_ret, blockQ_normal, blockQ_exit, blockQ_ret, retQ_ret, retQ_normal, ops_nil, ops_none, got_some, ops_wT, ops_wTn, ops_wF, ops_wFn, ops_wU, dops_wT, dops_wTn, dops_wF, dops_wFn, dops_wU, run_condT, run_condF, alt2_int, altB_bool, altI_int, altBB_bool, v_min, v_max, v_not, v_neg, optEv_none, optEv_some, isSome'_none, isSome'_some, pExt0, pExt1, pExt2, Bool.false_and, Bool.true_and, Bool.not_true, Bool.not_false, cond_true, cond_false, dops_nil, dops_none, xval_call, v_mov, v_bin, v_len, v_ext, v_idxA, v_ld, v_st, v_app, v_appN, v_cvs, v_bs1, pBs1, v_slc, v_conv, v_fld, v_fldA, v_new, v_box, v_mks, v_copy, v_isnil, v_nilck, v_pick, ev, evs_nil, evs_cons, fr_get_cons, fr_put_nil, fr_put_cons, fr_put_some, fr_put_none, fr_keep_nil, fr_keep_cons, fr_has_nil, fr_has_cons, Option.bind_some, Option.map_some, xbin, ibin, xresult_eq, xress_nil, xress_tmp, resV, ex_some, if_true, if_false, ite_true, ite_false, reduceIte, reduceCtorEq, Nat.reduceEqDiff, Nat.reduceLT, Nat.reduceLeDiff, Int.reduceLT, Int.reduceLE, Nat.zero_add, Nat.reduceAdd, Bool.false_eq_true, decide_eq_true_eq, decide_eq_false_iff_not, true_implies, false_implies, and_true, true_and]
  have xx : HExt H H4 := Keep.trans (n0 := H.n) x13 k4
  exact hq vt H5 (ot.le xx.1) (xx.trans x5)

/-! ### sectors are found -/
structure OutD (n0 : Nat) (H : AH) (v : Value) (l : List SD) : Prop where
  own : OL SDL n0 H v l
  byt : ∀ s ∈ l, Byts H s.w s.bs
  dis : ∀ s ∈ l, ∀ b, inB s.w b → ¬ inB v b
theorem OutD.ext {n0 : Nat} {H H' : AH} {v : Value} {l : List SD} (h : OutD n0 H v l) (x : HExt H H') : OutD n0 H' v l := ⟨h.own.ext x, fun p hp => Sl.ext x (h.byt p hp), h.dis⟩
theorem OutD.sds {n0 : Nat} {H : AH} {v : Value} {l : List SD} (h : OutD n0 H v l) : SDs H v l := ⟨h.own.1, h.byt⟩
theorem OutD.nil (n0 : Nat) (H : AH) : OutD n0 H (.slice none 0 0) [] := ⟨OL.nil _ _ _, fun s h => by simp at h, fun s h => by simp at h⟩
theorem OutD.le {n0 n1 : Nat} {H : AH} {v : Value} {l : List SD} (h : OutD n1 H v l) (hl : n0 ≤ n1) : OutD n0 H v l := ⟨h.own.le hl, h.byt, h.dis⟩
theorem OutD.set {n0 : Nat} {H : AH} {v : Value} {l : List SD} {E : Nat} {x : Blk} (h : OutD n0 H v l) (h1 : ¬ inB v E) (h2 : ∀ s ∈ l, ¬ inB s.w E) : OutD n0 (H.set E x) v l :=
  ⟨Own.same h.own (Nat.le_refl _) fun b hb => by rw [AH.get_set, if_neg (fun e : b = E => h1 (e ▸ hb))], fun s hs => Sl.same (h.byt s hs) (Nat.le_refl _) fun b hb => by rw [AH.get_set, if_neg (fun e : b = E => h2 s hs (e ▸ hb))], h.dis⟩
/-- what is told of a sector: all but where its bytes lie -/
def told (s : SD) : Int × Int × List Int × Bool := (s.tr, s.nu, s.bs, s.bad)
theorem v_b4ii {P : Program} {T : XTab} (fr : Fr) (H : AH) (dd : Option Nat) (x y : Operand) (z0 z1 z2 z3 : Value) : xval P (xc P T) ⟨dd, .build [z0, z1, z2, z3] [(0, 1, x), (1, 1, y)], none⟩ fr H =
    altNN (ev fr x) (ev fr y) (fun k n k2 n2 => some (.agg #[.int k n, .int k2 n2, z2, z3], H)) (xop P fr H (.build [z0, z1, z2, z3] [(0, 1, x), (1, 1, y)])) := by
  rw [xval_op dd _ fr H rfl]
  unfold altNN
  split
  · rename_i k n k2 n2 h h2
    rw [e_build]
    simp only [xfill, h, h2]
    rfl
  · rfl
def pS4 (v : Value) (H : AH) : Option (Value × AH) :=
  match vcells v with
  | [a, b, c, d] => bif one a && one b && one c && one d then some (.slice (some ⟨H.n, 0, none⟩) 1 1, H.push ⟨[a, b, c, d], 4, false, false⟩) else none
  | _ => none
theorem v_bs41 {P : Program} {T : XTab} (fr : Fr) (H : AH) (dd : Option Nat) (e : TypeId) (x : Operand) (z0 z1 z2 z3 : Value) : xval P (xc P T) ⟨dd, .bslice e 4 1 [z0, z1, z2, z3] [(0, x)], none⟩ fr H = (ev fr x).bind fun v => pS4 v H := by
  rw [xval_op dd _ fr H rfl, e_bslice]
  rcases hx : ev fr x with _ | v
  · simp [xfill, hx]
  · simp only [List.map_cons, List.map_nil, rep, List.append_nil, Option.bind_some, pS4, xfill, hx]
    rcases vcells v with _ | ⟨a, _ | ⟨b, _ | ⟨d, _ | ⟨d2, _ | ⟨d3, r⟩⟩⟩⟩⟩
    · rfl
    · have hb : [a].length.beq 4 = false := by rw [Tr.beq_eq]; simp
      simp only [hb, Bool.false_and, cond_false]
      rfl
    · have hb : [a, b].length.beq 4 = false := by rw [Tr.beq_eq]; simp
      simp only [hb, Bool.false_and, cond_false]
      rfl
    · have hb : [a, b, d].length.beq 4 = false := by rw [Tr.beq_eq]; simp
      simp only [hb, Bool.false_and, cond_false]
      rfl
    · cases h : one a <;> cases h2 : one b <;> cases h3 : one d <;> cases h4 : one d2 <;> simp [h, h2, h3, h4, splice, show Nat.ble 4 4 = true from rfl, show (4 : Nat).beq 4 = true from rfl]
    · have hb : (a :: b :: d :: d2 :: d3 :: r).length.beq 4 = false := by rw [Tr.beq_eq]; simp
      simp only [hb, Bool.false_and, cond_false]
      rfl
theorem pS4_of (s : SD) (H : AH) (h1 : one s.w = true) : pS4 (.agg #[.int .i64 s.tr, .int .i64 s.nu, s.w, .bool s.bad]) H = some (.slice (some ⟨H.n, 0, none⟩) 1 1, H.push ⟨SDL.cells [s], 4, false, false⟩) := by
  have e : vcells (.agg #[.int .i64 s.tr, .int .i64 s.nu, s.w, .bool s.bad]) = [.int .i64 s.tr, .int .i64 s.nu, s.w, .bool s.bad] := rfl
  unfold pS4; rw [e]
  simp only [show one (.int .i64 s.tr) = true from rfl, show one (.int .i64 s.nu) = true from rfl, h1, show one (.bool s.bad) = true from rfl, Bool.true_and, cond_true]
  rfl
theorem bd_parts (s : SD) (h : SdOk s) : ∃ t : List Int, t.length = 2 ∧ bdS s = 251 :: (s.bs ++ t) := by
  have hb := h.2.2.2.2.1
  have hl := bdS_len s h
  have hs : (sealed (251 :: s.bs)).take 129 = 251 :: s.bs := by
    unfold sealed
    rw [List.take_left' (by simp [hb])]
  have ht : (bdS s).take 129 = 251 :: s.bs := by
    unfold bdS
    split
    · unfold flipl
      have hL : (sealed (251 :: s.bs)).length = 131 := by rw [sealed_len, List.length_cons, hb]
      rw [hL, List.take_set, List.set_eq_of_length_le (by rw [List.length_take]; omega), hs]
    · exact hs
  refine ⟨(bdS s).drop 129, by rw [List.length_drop, hl], ?_⟩
  have := List.take_append_drop 129 (bdS s)
  rw [ht] at this
  exact this.symm
end Go.Proofs.Ytejedmocjdcdgaa.D

set_option linter.unusedSimpArgs false
set_option linter.unusedVariables false
namespace Go.Proofs.Ytejedmocjdcdgaa.D
open Go Go.Det

/-- crc.Open of a body: whether it is good -/
theorem open_body (s : SD) (h : SdOk s) (w : Value) (H : AH) (Q : Value → AH → Prop) (hw : Byts H w (bdS s)) (hq : ∀ v H', HExt H H' → Q (.tuple [v, .bool (!s.bad)].toArray) H') : Got (xc Try.prog tab 93 [w] H) Q := by
  have hl := bdS_len s h
  have h8 := bdS_b8 s h
  have hz := crc_sealed (251 :: s.bs) (bd_b8 s h)
  cases hb : s.bad with
  | true =>
    have e : bdS s = flipl (sealed (251 :: s.bs)) := by unfold bdS; rw [hb]; rfl
    have hne : crcFold 65535 (bdS s) ≠ 0 := by
      rw [e]
      exact flipl_crc _ (sealed_b8 _ (bd_b8 s h)) (by rw [sealed_len]; simp) hz
    have := open_bad (bdS s) (by omega) (by omega) h8 w H hw hne
    rw [hb] at hq
    rw [this, got_some]
    exact hq _ H (HExt.refl H)
  | false =>
    have e : bdS s = sealed (251 :: s.bs) := by unfold bdS; rw [hb]; rfl
    rw [hb] at hq
    refine open_ok (bdS s) (by omega) (by omega) h8 w H Q hw (by rw [e]; exact hz) ?_
    intro v H' o x
    exact hq v H' x

set_option maxHeartbeats 8000000 in
/-- a header is read -/
theorem scan_head (vp : Value) (N : Int) (s : SD) (hs : SdOk s) (w vo : Value) (E : Nat) (pre rest : List T3) (H : AH) (i : Int) (opn : Bool) (a b c d : Value) (Q : XExit → Fr → AH → Prop) (hr : RP H vp (pre ++ (true, hdS s ++ gp, w) :: rest)) (hi : i = (pre.length : Int)) (hlt : i < N) (hN : N ≤ 100000) (hE : H.get E = some ⟨[a, b, c, d], 1, false, false⟩) (hEn : E < H.n)
    (hq : ∀ H', H.n ≤ H'.n → (∀ d, d < H.n → d ≠ E → H'.get d = H.get d) → H'.get E = some ⟨[.int .i64 s.tr, .int .i64 s.nu, .slice none 0 0, .bool false], 1, false, false⟩ →
      Run Try.prog tab (.loop xsect_Scan_l0) [(8, vo), (9, .bool true), (10, .pointer (some ⟨E, 0, none⟩)), (25, vp), (26, .int .i64 N), (27, .int .i64 (i + 1))] H' Q) :
    Run Try.prog tab (.loop xsect_Scan_l0) [(8, vo), (9, .bool opn), (10, .pointer (some ⟨E, 0, none⟩)), (25, vp), (26, .int .i64 N), (27, .int .i64 i)] H Q := by
  rw [run_loop]
  generalize hL : XCode.loop xsect_Scan_l0 = L
  rw [hL] at hq
  have e1 := rp_idx hr .i64 i hi
  have e2 := rp_ld hr
  have hb := hr.2 (true, hdS s ++ gp, w) (by simp)
  obtain ⟨o1, o2⟩ := slice_one hb
  have st := b2_st H true w o1
  have hx := b2_ext H true w
  have g2 := b2_get H true w
  have e4 := bx2_0 g2
  have e5 := bx2_1 g2
  have nn := b2_n H true w
  have hb2 : Byts (b2 H true w) w (hdS s ++ gp) := Sl.ext hx hb
  have hE2 := (hx.2 E hEn).trans hE
  have e6 := byts_len' hb2
  have hlen : (hdS s ++ gp).length = 13 := by rw [List.length_append, hdS_len]; rfl
  rw [hlen] at e6
  have c0 : (((13 : Nat) : Int) == 0) = false := rfl
  have c5 : (((13 : Nat) : Int) ≥ 5) := by decide
  have i0 := byts_idx hb2 0 0 rfl (by omega)
  have hd0 : (hdS s ++ gp)[0]? = some 254 := rfl
  have hd1 : (hdS s ++ gp)[1]? = some s.tr := rfl
  have hd2 : (hdS s ++ gp)[2]? = some s.nu := rfl
  have v0 := byts_ld hb2 0 _ hd0
  obtain ⟨s', k1, k2, k3, _⟩ := xslc_ok (lo := none) (hi := some (.int .i64 5)) (i := 0) (h := 5) hb2 rfl rfl (by omega) (by omega)
  have k2' : Byts (b2 H true w) s' (hdS s) := by
    have e : (((hdS s ++ gp).map (Value.int .u8)).drop (0 * 1)).take ((5 - 0) * 1) = (hdS s).map (.int .u8) := by
      rw [List.map_append, Nat.zero_mul, List.drop_zero, List.take_left' (by rw [List.length_map, hdS_len])]
    rw [e] at k2
    have hl5 : (hdS s).length = 5 := hdS_len s
    unfold Byts
    rw [hl5]
    exact k2
  obtain ⟨s1, s2, s3, s4, s5, s6⟩ := id hs
  have w3 := wrI (i + 1) (by omega) (by omega)
  have cc : ((254 : Int) == 254) = true := rfl
  simp only [xsect_Scan_l0, ofArgs, run_seq, run_block, run_ops, run_skip, run_exit, run_ret, thenQ_normal, thenQ_exit, thenQ_ret, blockQ_normal, blockQ_exit, blockQ_ret, retQ_ret, retQ_normal, ops_nil, ops_none, got_some, ops_wT, ops_wTn, ops_wF, ops_wFn, ops_wU, dops_wT, dops_wTn, dops_wF, dops_wFn, dops_wU, run_condT, run_condF, alt2_int, altB_bool, altI_int, altBB_bool, v_min, v_max, v_not, v_neg, optEv_none, optEv_some, isSome'_none, isSome'_some, pExt0, pExt1, pExt2, Bool.false_and, Bool.true_and, Bool.not_true, Bool.not_false, cond_true, cond_false, dops_nil, dops_none, xval_call, v_mov, v_bin, v_len, v_ext, v_idxA, v_ld, v_st, v_app, v_appN, v_cvs, v_bs1, pBs1, v_slc, v_conv, v_fld, v_fldA, v_new, v_box, v_mks, v_copy, v_isnil, v_nilck, v_pick, ev, evs_nil, evs_cons, fr_get_cons, fr_put_nil, fr_put_cons, fr_put_some, fr_put_none, fr_keep_nil, fr_keep_cons, fr_has_nil, fr_has_cons, Option.bind_some, Option.map_some, xbin, ibin, xresult_eq, xress_nil, xress_tmp, resV, ex_some, if_true, if_false, ite_true, ite_false, reduceIte, reduceCtorEq, Nat.reduceEqDiff, Nat.reduceLT, Nat.reduceLeDiff, Int.reduceLT, Int.reduceLE, Nat.zero_add, Nat.reduceAdd, Bool.false_eq_true, decide_eq_true_eq, decide_eq_false_iff_not, true_implies, false_implies, and_true, true_and, hlt, decide_true, e1, e2, st, fldA0, fldA1, e4, e5, e6, c0, c5, i0, v0, cc, k1]
  refine open_ok (hdS s) (by rw [hdS_len]; omega) (by rw [hdS_len]; omega) (sealed_b8 _ (hd_b8 s hs)) s' _ _ k2' (crc_sealed _ (hd_b8 s hs)) ?_
  intro v3 H3 o3 x3
  have hb3 : Byts H3 w (hdS s ++ gp) := Sl.ext x3 hb2
  have i1 := byts_idx hb3 1 1 rfl (by omega)
  have v1 := byts_ld hb3 1 _ hd1
  have i2 := byts_idx hb3 2 2 rfl (by omega)
  have v2 := byts_ld hb3 2 _ hd2
  have q1 : pConv IntKind.i64 (.int .u8 s.tr) H3 = some (.int .i64 s.tr, H3) := by unfold pConv; simp only [wrI s.tr (by omega) (by omega)]
  have q2 : pConv IntKind.i64 (.int .u8 s.nu) H3 = some (.int .i64 s.nu, H3) := by unfold pConv; simp only [wrI s.nu (by omega) (by omega)]
  have hE3 := (x3.2 E (by omega)).trans hE2
  have stE := bx4_st (a' := .int .i64 s.tr) (b' := .int .i64 s.nu) (c' := .slice none 0 0) (d' := .bool false) hE3 rfl rfl rfl rfl
  simp only [ofArgs, run_seq, run_block, run_ops, run_skip, run_exit, run_ret, thenQ_normal, thenQ_exit, thenQ_ret, blockQ_normal, blockQ_exit, blockQ_ret, retQ_ret, retQ_normal, ops_nil, ops_none, got_some, ops_wT, ops_wTn, ops_wF, ops_wFn, ops_wU, dops_wT, dops_wTn, dops_wF, dops_wFn, dops_wU, run_condT, run_condF, alt2_int, altB_bool, altI_int, altBB_bool, v_min, v_max, v_not, v_neg, optEv_none, optEv_some, isSome'_none, isSome'_some, pExt0, pExt1, pExt2, Bool.false_and, Bool.true_and, Bool.not_true, Bool.not_false, cond_true, cond_false, dops_nil, dops_none, xval_call, v_mov, v_bin, v_len, v_ext, v_idxA, v_ld, v_st, v_app, v_appN, v_cvs, v_bs1, pBs1, v_slc, v_conv, v_fld, v_fldA, v_new, v_box, v_mks, v_copy, v_isnil, v_nilck, v_pick, ev, evs_nil, evs_cons, fr_get_cons, fr_put_nil, fr_put_cons, fr_put_some, fr_put_none, fr_keep_nil, fr_keep_cons, fr_has_nil, fr_has_cons, Option.bind_some, Option.map_some, xbin, ibin, xresult_eq, xress_nil, xress_tmp, resV, ex_some, if_true, if_false, ite_true, ite_false, reduceIte, reduceCtorEq, Nat.reduceEqDiff, Nat.reduceLT, Nat.reduceLeDiff, Int.reduceLT, Int.reduceLE, Nat.zero_add, Nat.reduceAdd, Bool.false_eq_true, decide_eq_true_eq, decide_eq_false_iff_not, true_implies, false_implies, and_true, true_and]
  refine run_dops _ _ _ _ _ rfl ?_
  simp only [ofArgs, run_seq, run_block, run_ops, run_skip, run_exit, run_ret, thenQ_normal, thenQ_exit, thenQ_ret, blockQ_normal, blockQ_exit, blockQ_ret, retQ_ret, retQ_normal, ops_nil, ops_none, got_some, ops_wT, ops_wTn, ops_wF, ops_wFn, ops_wU, dops_wT, dops_wTn, dops_wF, dops_wFn, dops_wU, run_condT, run_condF, alt2_int, altB_bool, altI_int, altBB_bool, v_min, v_max, v_not, v_neg, optEv_none, optEv_some, isSome'_none, isSome'_some, pExt0, pExt1, pExt2, Bool.false_and, Bool.true_and, Bool.not_true, Bool.not_false, cond_true, cond_false, dops_nil, dops_none, xval_call, v_mov, v_bin, v_len, v_ext, v_idxA, v_ld, v_st, v_app, v_appN, v_cvs, v_bs1, pBs1, v_slc, v_conv, v_fld, v_fldA, v_new, v_box, v_mks, v_copy, v_isnil, v_nilck, v_pick, ev, evs_nil, evs_cons, fr_get_cons, fr_put_nil, fr_put_cons, fr_put_some, fr_put_none, fr_keep_nil, fr_keep_cons, fr_has_nil, fr_has_cons, Option.bind_some, Option.map_some, xbin, ibin, xresult_eq, xress_nil, xress_tmp, resV, ex_some, if_true, if_false, ite_true, ite_false, reduceIte, reduceCtorEq, Nat.reduceEqDiff, Nat.reduceLT, Nat.reduceLeDiff, Int.reduceLT, Int.reduceLE, Nat.zero_add, Nat.reduceAdd, Bool.false_eq_true, decide_eq_true_eq, decide_eq_false_iff_not, true_implies, false_implies, and_true, true_and, i1, v1, i2, v2, q1, q2, v_b4ii, altNN_int, stE, w3]
  have n3 := x3.1
  refine hq _ (by show H.n ≤ H3.n; omega) (fun d hd hde => ?_) (by rw [AH.get_set, if_pos rfl])
  rw [AH.get_set, if_neg hde]
  exact (x3.2 d (by omega)).trans (hx.2 d hd)

set_option maxHeartbeats 8000000 in
/-- a body is read -/
theorem scan_body (n0 : Nat) (vp : Value) (N : Int) (s : SD) (hs : SdOk s) (w vo : Value) (lo : List SD) (E : Nat) (pre rest : List T3) (H : AH) (i : Int) (Q : XExit → Fr → AH → Prop) (hr : RP H vp (pre ++ (true, bdS s ++ gp, w) :: rest)) (hi : i = (pre.length : Int)) (hlt : i < N) (hN : N ≤ 100000) (hE : H.get E = some ⟨[.int .i64 s.tr, .int .i64 s.nu, .slice none 0 0, .bool false], 1, false, false⟩) (hEn : E < n0)
    (ho : OutD n0 H vo lo) (hn : n0 ≤ H.n) (hol : lo.length ≤ 100)
    (hlo : ∀ t ∈ lo, ∀ b, inB t.w b → n0 ≤ b)
    (hq : ∀ H' vo' w', OutD n0 H' vo' (lo ++ [{ s with w := w' }]) → (∀ b, inB w' b → n0 ≤ b) → H.n ≤ H'.n → (∀ d, d < n0 → d ≠ E → H'.get d = H.get d) → H'.get E = some ⟨[.int .i64 s.tr, .int .i64 s.nu, w', .bool s.bad], 1, false, false⟩ →
      Run Try.prog tab (.loop xsect_Scan_l0) [(8, vo'), (9, .bool false), (10, .pointer (some ⟨E, 0, none⟩)), (25, vp), (26, .int .i64 N), (27, .int .i64 (i + 1))] H' Q) :
    Run Try.prog tab (.loop xsect_Scan_l0) [(8, vo), (9, .bool true), (10, .pointer (some ⟨E, 0, none⟩)), (25, vp), (26, .int .i64 N), (27, .int .i64 i)] H Q := by
  rw [run_loop]
  generalize hL : XCode.loop xsect_Scan_l0 = L
  rw [hL] at hq
  have e1 := rp_idx hr .i64 i hi
  have e2 := rp_ld hr
  have hb := hr.2 (true, bdS s ++ gp, w) (by simp)
  obtain ⟨o1, o2⟩ := slice_one hb
  have st := b2_st H true w o1
  have hx := b2_ext H true w
  have g2 := b2_get H true w
  have e4 := bx2_0 g2
  have e5 := bx2_1 g2
  have nn := b2_n H true w
  have hb2 : Byts (b2 H true w) w (bdS s ++ gp) := Sl.ext hx hb
  have hE2 := (hx.2 E (by omega)).trans hE
  have e6 := byts_len' hb2
  have hlen : (bdS s ++ gp).length = 139 := by rw [List.length_append, bdS_len s hs]; rfl
  rw [hlen] at e6
  have c0 : (((139 : Nat) : Int) == 0) = false := rfl
  have c5 : (((139 : Nat) : Int) ≥ 131) := by decide
  have i0 := byts_idx hb2 0 0 rfl (by omega)
  obtain ⟨t, ht, hbd⟩ := bd_parts s hs
  have hd0 : (bdS s ++ gp)[0]? = some 251 := by rw [hbd]; rfl
  have v0 := byts_ld hb2 0 _ hd0
  obtain ⟨s', k1, k2, k3, _⟩ := xslc_ok (lo := none) (hi := some (.int .i64 131)) (i := 0) (h := 131) hb2 rfl rfl (by omega) (by omega)
  have k2' : Byts (b2 H true w) s' (bdS s) := by
    have hl5 := bdS_len s hs
    have e : (((bdS s ++ gp).map (Value.int .u8)).drop (0 * 1)).take ((131 - 0) * 1) = (bdS s).map (.int .u8) := by
      rw [List.map_append, Nat.zero_mul, List.drop_zero, List.take_left' (by rw [List.length_map, hl5])]
    rw [e] at k2
    unfold Byts
    rw [hl5]
    exact k2
  obtain ⟨s1, s2, s3, s4, s5, s6⟩ := id hs
  have w3 := wrI (i + 1) (by omega) (by omega)
  have cc : ((251 : Int) == 254) = false := rfl
  have cd : ((251 : Int) == 251) = true := rfl
  simp only [xsect_Scan_l0, ofArgs, run_seq, run_block, run_ops, run_skip, run_exit, run_ret, thenQ_normal, thenQ_exit, thenQ_ret, blockQ_normal, blockQ_exit, blockQ_ret, retQ_ret, retQ_normal, ops_nil, ops_none, got_some, ops_wT, ops_wTn, ops_wF, ops_wFn, ops_wU, dops_wT, dops_wTn, dops_wF, dops_wFn, dops_wU, run_condT, run_condF, alt2_int, altB_bool, altI_int, altBB_bool, v_min, v_max, v_not, v_neg, optEv_none, optEv_some, isSome'_none, isSome'_some, pExt0, pExt1, pExt2, Bool.false_and, Bool.true_and, Bool.not_true, Bool.not_false, cond_true, cond_false, dops_nil, dops_none, xval_call, v_mov, v_bin, v_len, v_ext, v_idxA, v_ld, v_st, v_app, v_appN, v_cvs, v_bs1, pBs1, v_slc, v_conv, v_fld, v_fldA, v_new, v_box, v_mks, v_copy, v_isnil, v_nilck, v_pick, ev, evs_nil, evs_cons, fr_get_cons, fr_put_nil, fr_put_cons, fr_put_some, fr_put_none, fr_keep_nil, fr_keep_cons, fr_has_nil, fr_has_cons, Option.bind_some, Option.map_some, xbin, ibin, xresult_eq, xress_nil, xress_tmp, resV, ex_some, if_true, if_false, ite_true, ite_false, reduceIte, reduceCtorEq, Nat.reduceEqDiff, Nat.reduceLT, Nat.reduceLeDiff, Int.reduceLT, Int.reduceLE, Nat.zero_add, Nat.reduceAdd, Bool.false_eq_true, decide_eq_true_eq, decide_eq_false_iff_not, true_implies, false_implies, and_true, true_and, hlt, decide_true, e1, e2, st, fldA0, fldA1, e4, e5, e6, c0, c5, i0, v0, cc, cd, k1]
  refine open_body s hs s' _ _ k2' ?_
  intro v3 H3 x3
  have n3 := x3.1
  have hb3 : Byts H3 w (bdS s ++ gp) := Sl.ext x3 hb2
  -- the bytes' copy
  have x4 := hext_push H3 ⟨[], 1, false, false⟩
  have n4 : (H3.push ⟨[], 1, false, false⟩).n = H3.n + 1 := rfl
  have o4 : OwnB H3.n (H3.push ⟨[], 1, false, false⟩) (.slice (some ⟨H3.n, 0, none⟩) 0 0) [] := Own.pushed H3 [] 1 0 false rfl
  have hb4 : Byts (H3.push ⟨[], 1, false, false⟩) w (bdS s ++ gp) := Sl.ext x4 hb3
  obtain ⟨s'', q1, q2, q3, _⟩ := xslc_ok (lo := some (.int .i64 1)) (hi := some (.int .i64 129)) (i := 1) (h := 129) hb4 rfl rfl (by omega) (by omega)
  have q2' : Byts (H3.push ⟨[], 1, false, false⟩) s'' s.bs := by
    have e : (((bdS s ++ gp).map (Value.int .u8)).drop (1 * 1)).take ((129 - 1) * 1) = s.bs.map (.int .u8) := by
      rw [hbd]
      simp only [List.cons_append, List.map_cons, List.drop_succ_cons, List.drop_zero, List.append_assoc, List.map_append]
      rw [List.take_left' (by rw [List.length_map, s5])]
    rw [e] at q2
    unfold Byts
    rw [s5]
    exact q2
  have hE4 := (x4.2 E (by omega)).trans ((x3.2 E (by omega)).trans hE2)
  simp only [ofArgs, run_seq, run_block, run_ops, run_skip, run_exit, run_ret, thenQ_normal, thenQ_exit, thenQ_ret, blockQ_normal, blockQ_exit, blockQ_ret, retQ_ret, retQ_normal, ops_nil, ops_none, got_some, ops_wT, ops_wTn, ops_wF, ops_wFn, ops_wU, dops_wT, dops_wTn, dops_wF, dops_wFn, dops_wU, run_condT, run_condF, alt2_int, altB_bool, altI_int, altBB_bool, v_min, v_max, v_not, v_neg, optEv_none, optEv_some, isSome'_none, isSome'_some, pExt0, pExt1, pExt2, Bool.false_and, Bool.true_and, Bool.not_true, Bool.not_false, cond_true, cond_false, dops_nil, dops_none, xval_call, v_mov, v_bin, v_len, v_ext, v_idxA, v_ld, v_st, v_app, v_appN, v_cvs, v_bs1, pBs1, v_slc, v_conv, v_fld, v_fldA, v_new, v_box, v_mks, v_copy, v_isnil, v_nilck, v_pick, ev, evs_nil, evs_cons, fr_get_cons, fr_put_nil, fr_put_cons, fr_put_some, fr_put_none, fr_keep_nil, fr_keep_cons, fr_has_nil, fr_has_cons, Option.bind_some, Option.map_some, xbin, ibin, xresult_eq, xress_nil, xress_tmp, resV, ex_some, if_true, if_false, ite_true, ite_false, reduceIte, reduceCtorEq, Nat.reduceEqDiff, Nat.reduceLT, Nat.reduceLeDiff, Int.reduceLT, Int.reduceLE, Nat.zero_add, Nat.reduceAdd, Bool.false_eq_true, decide_eq_true_eq, decide_eq_false_iff_not, true_implies, false_implies, and_true, true_and, v_bs0, q1]
  generalize H3.push ⟨[], 1, false, false⟩ = H4 at *
  refine appB o4 (by omega) q2' (by simp; omega) ?_
  intro w' H5 o5 st5
  have o5' : OwnB H3.n H5 w' s.bs := by simpa using o5
  obtain ⟨a1, a2⟩ := slice_one o5'.1
  have n5 := st5.n
  have keep5 : ∀ d, d < H3.n → H5.get d = H4.get d := fun d hd => st5.get d (by omega) (fun ⟨o, l, c, e⟩ => by
    simp only [Value.slice.injEq, Option.some.injEq, Addr.mk.injEq] at e
    omega)
  have hE5 := (keep5 E (by omega)).trans hE4
  have stE := bx4_st2 hE5 a1 a2
  have hE6 : (H5.set E ⟨[.int .i64 s.tr, .int .i64 s.nu, w', .bool false], 1, false, false⟩).get E = some ⟨[.int .i64 s.tr, .int .i64 s.nu, w', .bool false], 1, false, false⟩ := by rw [AH.get_set, if_pos rfl]
  have stE2 := bx4_st3 (d' := .bool s.bad) hE6 rfl rfl
  have hE7 : ((H5.set E ⟨[.int .i64 s.tr, .int .i64 s.nu, w', .bool false], 1, false, false⟩).set E ⟨[.int .i64 s.tr, .int .i64 s.nu, w', .bool s.bad], 1, false, false⟩).get E = some ⟨[.int .i64 s.tr, .int .i64 s.nu, w', .bool s.bad], 1, false, false⟩ := by rw [AH.get_set, if_pos rfl]
  have nb : (!(!s.bad)) = s.bad := Bool.not_not _
  have l7 := bx4_ld hE7
  have ps := fun H => pS4_of { s with w := w' } H a1
  simp only [ofArgs, run_seq, run_block, run_ops, run_skip, run_exit, run_ret, thenQ_normal, thenQ_exit, thenQ_ret, blockQ_normal, blockQ_exit, blockQ_ret, retQ_ret, retQ_normal, ops_nil, ops_none, got_some, ops_wT, ops_wTn, ops_wF, ops_wFn, ops_wU, dops_wT, dops_wTn, dops_wF, dops_wFn, dops_wU, run_condT, run_condF, alt2_int, altB_bool, altI_int, altBB_bool, v_min, v_max, v_not, v_neg, optEv_none, optEv_some, isSome'_none, isSome'_some, pExt0, pExt1, pExt2, Bool.false_and, Bool.true_and, Bool.not_true, Bool.not_false, cond_true, cond_false, dops_nil, dops_none, xval_call, v_mov, v_bin, v_len, v_ext, v_idxA, v_ld, v_st, v_app, v_appN, v_cvs, v_bs1, pBs1, v_slc, v_conv, v_fld, v_fldA, v_new, v_box, v_mks, v_copy, v_isnil, v_nilck, v_pick, ev, evs_nil, evs_cons, fr_get_cons, fr_put_nil, fr_put_cons, fr_put_some, fr_put_none, fr_keep_nil, fr_keep_cons, fr_has_nil, fr_has_cons, Option.bind_some, Option.map_some, xbin, ibin, xresult_eq, xress_nil, xress_tmp, resV, ex_some, if_true, if_false, ite_true, ite_false, reduceIte, reduceCtorEq, Nat.reduceEqDiff, Nat.reduceLT, Nat.reduceLeDiff, Int.reduceLT, Int.reduceLE, Nat.zero_add, Nat.reduceAdd, Bool.false_eq_true, decide_eq_true_eq, decide_eq_false_iff_not, true_implies, false_implies, and_true, true_and, fldA2, fldA3, stE, stE2, nb, l7, v_bs41, ps]
  -- the sectors
  have ge5 : ∀ b, inB w' b → H3.n ≤ b := fun b ⟨o, l, c, e⟩ => (o5'.2 b o l c e).1
  have hvo : ¬ inB vo E := fun h => by have := ho.own.ge h; omega
  have z35 : HExt H3 H5 := ⟨by omega, fun d hd => (keep5 d hd).trans (x4.2 d hd)⟩
  have z5 : HExt H H5 := (hx.trans x3).trans z35
  have d5 := ho.ext z5
  have d6 := (d5.set (x := ⟨[.int .i64 s.tr, .int .i64 s.nu, w', .bool false], 1, false, false⟩) hvo (fun t ht h => by have := hlo t ht E h; omega)).set (x := ⟨[.int .i64 s.tr, .int .i64 s.nu, w', .bool s.bad], 1, false, false⟩) hvo (fun t ht h => by have := hlo t ht E h; omega)
  have b7 : Byts ((H5.set E ⟨[.int .i64 s.tr, .int .i64 s.nu, w', .bool false], 1, false, false⟩).set E ⟨[.int .i64 s.tr, .int .i64 s.nu, w', .bool s.bad], 1, false, false⟩) w' s.bs := Sl.same o5'.1 (Nat.le_refl _) fun b hb => by
    have := ge5 b hb
    rw [AH.get_set, if_neg (by omega), AH.get_set, if_neg (by omega)]
  have n7 : ((H5.set E ⟨[.int .i64 s.tr, .int .i64 s.nu, w', .bool false], 1, false, false⟩).set E ⟨[.int .i64 s.tr, .int .i64 s.nu, w', .bool s.bad], 1, false, false⟩).n = H5.n := rfl
  have g7 : ∀ d, d ≠ E → ((H5.set E ⟨[.int .i64 s.tr, .int .i64 s.nu, w', .bool false], 1, false, false⟩).set E ⟨[.int .i64 s.tr, .int .i64 s.nu, w', .bool s.bad], 1, false, false⟩).get d = H5.get d := fun d hd => by rw [AH.get_set, if_neg hd, AH.get_set, if_neg hd]
  generalize (H5.set E ⟨[.int .i64 s.tr, .int .i64 s.nu, w', .bool false], 1, false, false⟩).set E ⟨[.int .i64 s.tr, .int .i64 s.nu, w', .bool s.bad], 1, false, false⟩ = H7 at *
  refine OL.push [{ s with w := w' }] d6.own (by omega) (by show ([.int .i64 s.tr, .int .i64 s.nu, w', .bool s.bad] : List Value).all one = true; simp [a1, show one (.bool s.bad) = true from rfl, show one (.int .i64 s.tr) = true from rfl, show one (.int .i64 s.nu) = true from rfl]) 48 (by decide) (by simp; omega) ?_
  intro vo' H8 o8 k8 g8 new8 n8
  simp only [ofArgs, run_seq, run_block, run_ops, run_skip, run_exit, run_ret, thenQ_normal, thenQ_exit, thenQ_ret, blockQ_normal, blockQ_exit, blockQ_ret, retQ_ret, retQ_normal, ops_nil, ops_none, got_some, ops_wT, ops_wTn, ops_wF, ops_wFn, ops_wU, dops_wT, dops_wTn, dops_wF, dops_wFn, dops_wU, run_condT, run_condF, alt2_int, altB_bool, altI_int, altBB_bool, v_min, v_max, v_not, v_neg, optEv_none, optEv_some, isSome'_none, isSome'_some, pExt0, pExt1, pExt2, Bool.false_and, Bool.true_and, Bool.not_true, Bool.not_false, cond_true, cond_false, dops_nil, dops_none, xval_call, v_mov, v_bin, v_len, v_ext, v_idxA, v_ld, v_st, v_app, v_appN, v_cvs, v_bs1, pBs1, v_slc, v_conv, v_fld, v_fldA, v_new, v_box, v_mks, v_copy, v_isnil, v_nilck, v_pick, ev, evs_nil, evs_cons, fr_get_cons, fr_put_nil, fr_put_cons, fr_put_some, fr_put_none, fr_keep_nil, fr_keep_cons, fr_has_nil, fr_has_cons, Option.bind_some, Option.map_some, xbin, ibin, xresult_eq, xress_nil, xress_tmp, resV, ex_some, if_true, if_false, ite_true, ite_false, reduceIte, reduceCtorEq, Nat.reduceEqDiff, Nat.reduceLT, Nat.reduceLeDiff, Int.reduceLT, Int.reduceLE, Nat.zero_add, Nat.reduceAdd, Bool.false_eq_true, decide_eq_true_eq, decide_eq_false_iff_not, true_implies, false_implies, and_true, true_and, w3]
  have hvol : ∀ b, inB vo b → b < H.n := fun b hb => ho.own.1.lt hb
  have hw'vo : ∀ b, inB w' b → ¬ inB vo b := fun b h1 h2 => by have := ge5 b h1; have := hvol b h2; omega
  refine hq H8 vo' w' ⟨o8, fun t ht => ?_, fun t ht b hb hv => ?_⟩ (fun b hb => by have := ge5 b hb; omega) (by omega) (fun d hd hde => ?_) ?_
  · rcases List.mem_append.1 ht with h | h
    · exact Sl.same (d6.byt t h) n8 fun b hb => g8 b ((d6.byt t h).lt hb) (ho.dis t h b hb)
    · simp only [List.mem_singleton] at h
      subst h
      exact Sl.same b7 n8 fun b hb => g8 b (b7.lt hb) (hw'vo b hb)
  · rcases new8 b hv with h2 | h2
    · rcases List.mem_append.1 ht with h | h
      · exact ho.dis t h b hb h2
      · simp only [List.mem_singleton] at h
        subst h
        exact hw'vo b hb h2
    · rcases List.mem_append.1 ht with h | h
      · have := (d6.byt t h).lt hb; omega
      · simp only [List.mem_singleton] at h
        subst h
        have := b7.lt hb; omega
  · exact (k8.2 d hd).trans ((g7 d hde).trans (z5.2 d (by omega)))
  · exact (k8.2 E hEn).trans hE7
end Go.Proofs.Ytejedmocjdcdgaa.D

set_option linter.unusedSimpArgs false
set_option linter.unusedVariables false
namespace Go.Proofs.Ytejedmocjdcdgaa.D
open Go Go.Det

theorem OutD.same {n0 : Nat} {H H' : AH} {v : Value} {l : List SD} (h : OutD n0 H v l) (hn : H.n ≤ H'.n) (hlo : ∀ t ∈ l, ∀ b, inB t.w b → n0 ≤ b) (hg : ∀ b, n0 ≤ b → b < H.n → H'.get b = H.get b) : OutD n0 H' v l :=
  ⟨h.own.same hn hg, fun s hs => Sl.same (h.byt s hs) hn fun b hb => hg b (hlo s hs b hb) ((h.byt s hs).lt hb), h.dis⟩
theorem RP.same {H H' : AH} {v : Value} {l : List T3} (h : RP H v l) (hn : H.n ≤ H'.n) (hv : ∀ b, inB v b → H'.get b = H.get b) (hp : ∀ p ∈ l, ∀ b, inB p.2.2 b → H'.get b = H.get b) : RP H' v l := ⟨Sl.same h.1 hn hv, fun p h' => Sl.same (h.2 p h') hn (hp p h')⟩
theorem scan_l0 (n0 : Nat) (vp : Value) (N : Int) (E : Nat) (hE0 : E < n0) (hvp : ∀ b, inB vp b → b < n0 ∧ b ≠ E) (rest : List SD) : ∀ (pre lr : List T3) (vo : Value) (lo : List SD) (H : AH) (i : Int) (opn : Bool) (a b c d : Value) (Q : XExit → Fr → AH → Prop), RP H vp (pre ++ lr) → lr.map strip = rest.flatMap ptS → (∀ s ∈ rest, SdOk s) → (∀ p ∈ pre ++ lr, ∀ b, inB p.2.2 b → b < n0 ∧ b ≠ E) →
    OutD n0 H vo lo → (∀ t ∈ lo, ∀ b, inB t.w b → n0 ≤ b) → H.get E = some ⟨[a, b, c, d], 1, false, false⟩ → n0 ≤ H.n → i = (pre.length : Int) → N = ((pre ++ lr).length : Int) → N ≤ 2000 → lo.length + rest.length ≤ 100 →
    (∀ H' vo' lo' opn', OutD n0 H' vo' lo' → lo'.map told = lo.map told ++ rest.map told → H.n ≤ H'.n → (∀ d, d < n0 → d ≠ E → H'.get d = H.get d) → Q (.exit 0) [(8, vo'), (9, .bool opn'), (10, .pointer (some ⟨E, 0, none⟩)), (25, vp), (26, .int .i64 N), (27, .int .i64 N), (28, .bool false)] H') →
    Run Try.prog tab (.loop xsect_Scan_l0) [(8, vo), (9, .bool opn), (10, .pointer (some ⟨E, 0, none⟩)), (25, vp), (26, .int .i64 N), (27, .int .i64 i)] H Q := by
  induction rest with
  | nil =>
    intro pre lr vo lo H i opn a b c d Q hr hm hok hp ho hlo hE hn hi hN hN2 hl hq
    have hlr : lr = [] := by simpa using hm
    subst hlr
    rw [run_loop]
    generalize hL : XCode.loop xsect_Scan_l0 = L
    have hiN : i = N := by simp at hN; omega
    subst hiN
    have hf : ¬ i < i := by omega
    simp only [xsect_Scan_l0, ofArgs, run_seq, run_block, run_ops, run_skip, run_exit, run_ret, thenQ_normal, thenQ_exit, thenQ_ret, blockQ_normal, blockQ_exit, blockQ_ret, retQ_ret, retQ_normal, ops_nil, ops_none, got_some, ops_wT, ops_wTn, ops_wF, ops_wFn, ops_wU, dops_wT, dops_wTn, dops_wF, dops_wFn, dops_wU, run_condT, run_condF, alt2_int, altB_bool, altI_int, altBB_bool, v_min, v_max, v_not, v_neg, optEv_none, optEv_some, isSome'_none, isSome'_some, pExt0, pExt1, pExt2, Bool.false_and, Bool.true_and, Bool.not_true, Bool.not_false, cond_true, cond_false, dops_nil, dops_none, xval_call, v_mov, v_bin, v_len, v_ext, v_idxA, v_ld, v_st, v_app, v_appN, v_cvs, v_bs1, pBs1, v_slc, v_conv, v_fld, v_fldA, v_new, v_box, v_mks, v_copy, v_isnil, v_nilck, v_pick, ev, evs_nil, evs_cons, fr_get_cons, fr_put_nil, fr_put_cons, fr_put_some, fr_put_none, fr_keep_nil, fr_keep_cons, fr_has_nil, fr_has_cons, Option.bind_some, Option.map_some, xbin, ibin, xresult_eq, xress_nil, xress_tmp, resV, ex_some, if_true, if_false, ite_true, ite_false, reduceIte, reduceCtorEq, Nat.reduceEqDiff, Nat.reduceLT, Nat.reduceLeDiff, Int.reduceLT, Int.reduceLE, Nat.zero_add, Nat.reduceAdd, Bool.false_eq_true, decide_eq_true_eq, decide_eq_false_iff_not, true_implies, false_implies, and_true, true_and, hf, decide_false]
    exact hq H vo lo opn ho (by simp) (Nat.le_refl _) (fun _ _ _ => rfl)
  | cons s rest ih =>
    intro pre lr vo lo H i opn a b c d Q hr hm hok hp ho hlo hE hn hi hN hN2 hl hq
    have hm2 : lr.map strip = (true, hdS s ++ gp) :: (true, bdS s ++ gp) :: rest.flatMap ptS := by rw [hm, List.flatMap_cons]; rfl
    cases lr with
    | nil => cases hm2
    | cons p1 lr =>
    cases lr with
    | nil => simp at hm2
    | cons p2 lr =>
    obtain ⟨m1, b1, w1⟩ := p1
    obtain ⟨m2, b2, w2⟩ := p2
    simp only [List.map_cons, List.cons.injEq, strip, Prod.mk.injEq] at hm2
    obtain ⟨⟨rfl, rfl⟩, ⟨rfl, rfl⟩, hm3⟩ := hm2
    simp only [List.length_cons] at hl
    have hsk := hok s (by simp)
    have hNl : N = (pre.length : Int) + 2 + (lr.length : Int) := by rw [hN]; simp; omega
    refine scan_head vp N s hsk w1 vo E pre _ H i opn a b c d Q hr hi (by omega) (by omega) hE (by omega) ?_
    intro H1 n1 g1 hE1
    have ho1 : OutD n0 H1 vo lo := ho.same n1 hlo fun b hb hb2 => g1 b hb2 (by omega)
    have hr1 : RP H1 vp ((pre ++ [(true, hdS s ++ gp, w1)]) ++ (true, bdS s ++ gp, w2) :: lr) := by
      rw [← List.append_cons]
      exact hr.same n1 (fun b hb => g1 b (by have := (hvp b hb).1; omega) (hvp b hb).2) (fun p hp' b hb => g1 b (by have := (hp p hp' b hb).1; omega) (hp p hp' b hb).2)
    refine scan_body n0 vp N s hsk w2 vo lo E (pre ++ [(true, hdS s ++ gp, w1)]) lr H1 (i + 1) Q hr1 (by simp; omega) (by omega) (by omega) hE1 hE0 ho1 (by omega) (by omega) hlo ?_
    intro H2 vo2 w' o2 hw' n2 g2 hE2
    have hr2 : RP H2 vp ((pre ++ [(true, hdS s ++ gp, w1)] ++ [(true, bdS s ++ gp, w2)]) ++ lr) := by
      rw [← List.append_cons]
      exact hr1.same n2 (fun b hb => g2 b (hvp b hb).1 (hvp b hb).2) (fun p hp' b hb => by
        have := hp p (by rw [List.append_cons]; exact hp') b hb
        exact g2 b this.1 this.2)
    refine ih (pre ++ [(true, hdS s ++ gp, w1)] ++ [(true, bdS s ++ gp, w2)]) lr vo2 (lo ++ [{ s with w := w' }]) H2 (i + 1 + 1) false _ _ _ _ Q hr2 hm3 (fun y hy => hok y (by simp [hy])) (fun p hp' b hb => hp p (by simp at hp' ⊢; exact hp') b hb) o2 (fun t ht b hb => ?_) hE2 (by omega) (by simp; omega) (by simp; omega) hN2 (by simp; omega) ?_
    · rcases List.mem_append.1 ht with h | h
      · exact hlo t h b hb
      · simp only [List.mem_singleton] at h
        subst h
        exact hw' b hb
    · intro H3 vo3 lo3 opn3 o3 hm3 n3 g3
      refine hq H3 vo3 lo3 opn3 o3 ?_ (by omega) (fun d hd hde => (g3 d hd hde).trans ((g2 d hd hde).trans (g1 d (by omega) hde)))
      rw [hm3]
      simp [told]
theorem scan_first (vp : Value) (N : Int) (w : Value) (bs : List Int) (ptr : Value) (rest : List T3) (H : AH) (Q : XExit → Fr → AH → Prop) (hr : RP H vp ((false, bs, w) :: rest)) (hlt : 0 < N)
    (hq : ∀ H', HExt H H' → Run Try.prog tab (.loop xsect_Scan_l0) [(8, .slice none 0 0), (9, .bool false), (10, ptr), (25, vp), (26, .int .i64 N), (27, .int .i64 1)] H' Q) :
    Run Try.prog tab (.loop xsect_Scan_l0) [(8, .slice none 0 0), (9, .bool false), (10, ptr), (25, vp), (26, .int .i64 N), (27, .int .i64 0)] H Q := by
  rw [run_loop]
  generalize hL : XCode.loop xsect_Scan_l0 = L
  rw [hL] at hq
  have hr' : RP H vp ([] ++ (false, bs, w) :: rest) := hr
  have e1 := rp_idx hr' .i64 0 rfl
  have e2 := rp_ld hr'
  have hb := hr.2 (false, bs, w) (by simp)
  obtain ⟨o1, o2⟩ := slice_one hb
  have st := b2_st H false w o1
  have hx := b2_ext H false w
  have g2 := b2_get H false w
  have e4 := bx2_0 g2
  have e5 := bx2_1 g2
  have w3 : IntKind.i64.wrap (0 + 1) = 1 := rfl
  simp only [xsect_Scan_l0, ofArgs, run_seq, run_block, run_ops, run_skip, run_exit, run_ret, thenQ_normal, thenQ_exit, thenQ_ret, blockQ_normal, blockQ_exit, blockQ_ret, retQ_ret, retQ_normal, ops_nil, ops_none, got_some, ops_wT, ops_wTn, ops_wF, ops_wFn, ops_wU, dops_wT, dops_wTn, dops_wF, dops_wFn, dops_wU, run_condT, run_condF, alt2_int, altB_bool, altI_int, altBB_bool, v_min, v_max, v_not, v_neg, optEv_none, optEv_some, isSome'_none, isSome'_some, pExt0, pExt1, pExt2, Bool.false_and, Bool.true_and, Bool.not_true, Bool.not_false, cond_true, cond_false, dops_nil, dops_none, xval_call, v_mov, v_bin, v_len, v_ext, v_idxA, v_ld, v_st, v_app, v_appN, v_cvs, v_bs1, pBs1, v_slc, v_conv, v_fld, v_fldA, v_new, v_box, v_mks, v_copy, v_isnil, v_nilck, v_pick, ev, evs_nil, evs_cons, fr_get_cons, fr_put_nil, fr_put_cons, fr_put_some, fr_put_none, fr_keep_nil, fr_keep_cons, fr_has_nil, fr_has_cons, Option.bind_some, Option.map_some, xbin, ibin, xresult_eq, xress_nil, xress_tmp, resV, ex_some, if_true, if_false, ite_true, ite_false, reduceIte, reduceCtorEq, Nat.reduceEqDiff, Nat.reduceLT, Nat.reduceLeDiff, Int.reduceLT, Int.reduceLE, Nat.zero_add, Nat.reduceAdd, Bool.false_eq_true, decide_eq_true_eq, decide_eq_false_iff_not, true_implies, false_implies, and_true, true_and, hlt, decide_true, e1, e2, st, fldA0, fldA1, e4, e5, w3]
  exact hq _ hx
set_option maxHeartbeats 2000000 in
theorem scan_ok (l : List SD) (hok : ∀ s ∈ l, SdOk s) (hl : l.length ≤ 12) (vt : Value) (cell : Int) (H : AH) (Q : Value → AH → Prop) (hs : Ints H vt (pul cell (gaps (fullI (itemsL (fmtP l)))).1)) (hc : 2 ≤ cell) (hc2 : cell ≤ 1000)
    (hq : ∀ v l' H', OutD H.n H' v l' → l'.map told = l.map told → HExt H H' → Q (.tuple [v, .int .i64 0].toArray) H') : Got (xc Try.prog tab 44 [vt, .int .i64 cell] H) Q := by
  refine got_call (res := [.tmp 4, .tmp 5]) rfl ?_
  have can := fmt_canon l hok
  have hsz := fmt_sz l hok
  have hpl := fmtP_len l
  have iok := items_ok _ can.1
  have gb := fullI_gb _ iok
  have glen := (gaps_len (fullI (itemsL (fmtP l)))).1
  rw [fullI_len] at glen
  have hil : (itemsL (fmtP l)).length = szP (fmtP l) := rfl
  generalize hT : ((.seq (.seq (.ops [⟨some 22, .mov (.tmp 7), none⟩, ⟨some 23, .bin .neq (.tmp 22) (.const (.int .i64 0)), none⟩] [6, 7, 23]) (.cond (.tmp 23) (.seq (.ops [⟨some 24, .mov (.tmp 7), none⟩, ⟨some 4, .mov (.const (.slice none 0 0)), none⟩, ⟨some 5, .mov (.tmp 24), none⟩] [4, 5]) .ret) .skip)) (.seq (.ops [⟨some 8, .mov (.const (.slice none 0 0)), none⟩] [6, 8]) (.seq (.ops [⟨some 9, .mov (.const (.bool false)), none⟩] [6, 8, 9]) (.seq (.ops [⟨some 10, .new 87 1 [.int .i64 0, .int .i64 0, .slice none 0 0, .bool false], none⟩] [6, 8, 9, 10]) (.seq (.seq (.ops [⟨some 25, .mov (.tmp 6), none⟩, ⟨some 26, .len (.tmp 25), none⟩, ⟨some 27, .mov (.const (.int .i64 0)), none⟩] [8, 9, 10, 25, 26, 27]) (.block 0 (.loop xsect_Scan_l0))) (.seq (.seq (.ops [⟨some 99, .mov (.tmp 8), none⟩, ⟨some 100, .len (.tmp 99), none⟩, ⟨some 101, .bin .gtr (.tmp 100) (.const (.int .i64 12)), none⟩] [8, 101]) (.cond (.tmp 101) (.seq (.ops [⟨some 4, .mov (.const (.slice none 0 0)), none⟩, ⟨some 5, .mov (.const (.int .i64 2)), none⟩] [4, 5]) .ret) .skip)) (.seq (.ops [⟨some 102, .mov (.tmp 8), none⟩, ⟨some 4, .mov (.tmp 102), none⟩, ⟨some 5, .mov (.const (.int .i64 0)), none⟩] [4, 5]) .ret))))))) : XCode) = T
  simp only [ofArgs, run_seq, run_block, run_ops, run_skip, run_exit, run_ret, thenQ_normal, thenQ_exit, thenQ_ret, blockQ_normal, blockQ_exit, blockQ_ret, retQ_ret, retQ_normal, ops_nil, ops_none, got_some, ops_wT, ops_wTn, ops_wF, ops_wFn, ops_wU, dops_wT, dops_wTn, dops_wF, dops_wFn, dops_wU, run_condT, run_condF, alt2_int, altB_bool, altI_int, altBB_bool, v_min, v_max, v_not, v_neg, optEv_none, optEv_some, isSome'_none, isSome'_some, pExt0, pExt1, pExt2, Bool.false_and, Bool.true_and, Bool.not_true, Bool.not_false, cond_true, cond_false, dops_nil, dops_none, xval_call, v_mov, v_bin, v_len, v_ext, v_idxA, v_ld, v_st, v_app, v_appN, v_cvs, v_bs1, pBs1, v_slc, v_conv, v_fld, v_fldA, v_new, v_box, v_mks, v_copy, v_isnil, v_nilck, v_pick, ev, evs_nil, evs_cons, fr_get_cons, fr_put_nil, fr_put_cons, fr_put_some, fr_put_none, fr_keep_nil, fr_keep_cons, fr_has_nil, fr_has_cons, Option.bind_some, Option.map_some, xbin, ibin, xresult_eq, xress_nil, xress_tmp, resV, ex_some, if_true, if_false, ite_true, ite_false, reduceIte, reduceCtorEq, Nat.reduceEqDiff, Nat.reduceLT, Nat.reduceLeDiff, Int.reduceLT, Int.reduceLE, Nat.zero_add, Nat.reduceAdd, Bool.false_eq_true, decide_eq_true_eq, decide_eq_false_iff_not, true_implies, false_implies, and_true, true_and]
  refine readPs_ok (fmtP l) _ can cell vt H _ hs (pul_ok cell hc hc2 _ (fun g hg => by have := gb.1 g hg; omega)) (pul_cells cell hc hc2 _ (fun g hg => by have := gb.1 g hg; omega)) (by omega) (by omega) hc hc2 ?_
  intro vp lp H1 o1 hm x1
  have hll : lp.length = 1 + 2 * l.length := by have := congrArg List.length hm; rw [List.length_map, fmtP_len] at this; exact this
  cases lp with
  | nil => simp only [List.length_nil] at hll; omega
  | cons p lp =>
  obtain ⟨m, bs, w⟩ := p
  have hm2 : strip (m, bs, w) = (false, gp) ∧ lp.map strip = l.flatMap ptS := by
    simp only [List.map_cons, fmtP, List.cons.injEq] at hm
    exact hm
  simp only [strip, Prod.mk.injEq] at hm2
  obtain ⟨⟨rfl, rfl⟩, hm3⟩ := hm2
  have x2 := hext_push H1 ⟨[.int .i64 0, .int .i64 0, .slice none 0 0, .bool false], 1, false, false⟩
  have n2 : (H1.push ⟨[.int .i64 0, .int .i64 0, .slice none 0 0, .bool false], 1, false, false⟩).n = H1.n + 1 := rfl
  have hE : (H1.push ⟨[.int .i64 0, .int .i64 0, .slice none 0 0, .bool false], 1, false, false⟩).get H1.n = some ⟨[.int .i64 0, .int .i64 0, .slice none 0 0, .bool false], 1, false, false⟩ := by rw [AH.get_push, if_pos rfl]
  have hr2 := o1.rp.ext x2
  have e0 := pLen_ok hr2.1
  subst hT
  generalize hT : ((.seq (.seq (.ops [⟨some 99, .mov (.tmp 8), none⟩, ⟨some 100, .len (.tmp 99), none⟩, ⟨some 101, .bin .gtr (.tmp 100) (.const (.int .i64 12)), none⟩] [8, 101]) (.cond (.tmp 101) (.seq (.ops [⟨some 4, .mov (.const (.slice none 0 0)), none⟩, ⟨some 5, .mov (.const (.int .i64 2)), none⟩] [4, 5]) .ret) .skip)) (.seq (.ops [⟨some 102, .mov (.tmp 8), none⟩, ⟨some 4, .mov (.tmp 102), none⟩, ⟨some 5, .mov (.const (.int .i64 0)), none⟩] [4, 5]) .ret)) : XCode) = T
  simp only [ofArgs, run_seq, run_block, run_ops, run_skip, run_exit, run_ret, thenQ_normal, thenQ_exit, thenQ_ret, blockQ_normal, blockQ_exit, blockQ_ret, retQ_ret, retQ_normal, ops_nil, ops_none, got_some, ops_wT, ops_wTn, ops_wF, ops_wFn, ops_wU, dops_wT, dops_wTn, dops_wF, dops_wFn, dops_wU, run_condT, run_condF, alt2_int, altB_bool, altI_int, altBB_bool, v_min, v_max, v_not, v_neg, optEv_none, optEv_some, isSome'_none, isSome'_some, pExt0, pExt1, pExt2, Bool.false_and, Bool.true_and, Bool.not_true, Bool.not_false, cond_true, cond_false, dops_nil, dops_none, xval_call, v_mov, v_bin, v_len, v_ext, v_idxA, v_ld, v_st, v_app, v_appN, v_cvs, v_bs1, pBs1, v_slc, v_conv, v_fld, v_fldA, v_new, v_box, v_mks, v_copy, v_isnil, v_nilck, v_pick, ev, evs_nil, evs_cons, fr_get_cons, fr_put_nil, fr_put_cons, fr_put_some, fr_put_none, fr_keep_nil, fr_keep_cons, fr_has_nil, fr_has_cons, Option.bind_some, Option.map_some, xbin, ibin, xresult_eq, xress_nil, xress_tmp, resV, ex_some, if_true, if_false, ite_true, ite_false, reduceIte, reduceCtorEq, Nat.reduceEqDiff, Nat.reduceLT, Nat.reduceLeDiff, Int.reduceLT, Int.reduceLE, Nat.zero_add, Nat.reduceAdd, Bool.false_eq_true, decide_eq_true_eq, decide_eq_false_iff_not, true_implies, false_implies, and_true, true_and, bne_self_eq_false, e0]
  generalize H1.push ⟨[.int .i64 0, .int .i64 0, .slice none 0 0, .bool false], 1, false, false⟩ = H2 at *
  refine scan_first vp _ w gp _ lp H2 _ hr2 (by simp) ?_
  intro H3 x3
  have n3 := x3.1
  have hr3 := hr2.ext x3
  have hvl : ∀ b, inB vp b → b < H1.n := fun b hb => o1.rp.1.lt hb
  have hpl2 : ∀ p ∈ (false, gp, w) :: lp, ∀ b, inB p.2.2 b → b < H1.n := fun p hp b hb => (o1.rp.2 p hp).lt hb
  refine scan_l0 (H1.n + 1) vp _ H1.n (by omega) (fun b hb => by have := hvl b hb; omega) l [(false, gp, w)] lp (.slice none 0 0) [] H3 1 false _ _ _ _ _ hr3 hm3 hok (fun p hp b hb => by have := hpl2 p hp b hb; omega) (OutD.nil _ _) (fun t ht => by simp at ht) ((x3.2 H1.n (by omega)).trans hE) (by omega) (by simp) rfl (by simp at hll ⊢; omega) (by simp; omega) ?_
  intro H4 vo lo opn o4 hmo n4 g4
  simp only [List.map_nil, List.nil_append] at hmo
  have hlo : lo.length = l.length := by have := congrArg List.length hmo; simpa using this
  have c1 : ¬ (lo.length : Int) > 12 := by omega
  subst hT
  have e6 : pLen vo H4 = some (.int .i64 (lo.length : Int), H4) := pLen_ok o4.own.1
  simp only [ofArgs, run_seq, run_block, run_ops, run_skip, run_exit, run_ret, thenQ_normal, thenQ_exit, thenQ_ret, blockQ_normal, blockQ_exit, blockQ_ret, retQ_ret, retQ_normal, ops_nil, ops_none, got_some, ops_wT, ops_wTn, ops_wF, ops_wFn, ops_wU, dops_wT, dops_wTn, dops_wF, dops_wFn, dops_wU, run_condT, run_condF, alt2_int, altB_bool, altI_int, altBB_bool, v_min, v_max, v_not, v_neg, optEv_none, optEv_some, isSome'_none, isSome'_some, pExt0, pExt1, pExt2, Bool.false_and, Bool.true_and, Bool.not_true, Bool.not_false, cond_true, cond_false, dops_nil, dops_none, xval_call, v_mov, v_bin, v_len, v_ext, v_idxA, v_ld, v_st, v_app, v_appN, v_cvs, v_bs1, pBs1, v_slc, v_conv, v_fld, v_fldA, v_new, v_box, v_mks, v_copy, v_isnil, v_nilck, v_pick, ev, evs_nil, evs_cons, fr_get_cons, fr_put_nil, fr_put_cons, fr_put_some, fr_put_none, fr_keep_nil, fr_keep_cons, fr_has_nil, fr_has_cons, Option.bind_some, Option.map_some, xbin, ibin, xresult_eq, xress_nil, xress_tmp, resV, ex_some, if_true, if_false, ite_true, ite_false, reduceIte, reduceCtorEq, Nat.reduceEqDiff, Nat.reduceLT, Nat.reduceLeDiff, Int.reduceLT, Int.reduceLE, Nat.zero_add, Nat.reduceAdd, Bool.false_eq_true, decide_eq_true_eq, decide_eq_false_iff_not, true_implies, false_implies, and_true, true_and, e6, c1, decide_false]
  have xn := x1.1
  exact hq vo lo H4 (o4.le (by omega)) hmo ⟨by omega, fun d hd => (g4 d (by omega) (by omega)).trans ((x3.2 d (by omega)).trans ((x2.2 d (by omega)).trans (x1.2 d hd)))⟩
end Go.Proofs.Ytejedmocjdcdgaa.D

set_option linter.unusedSimpArgs false
set_option linter.unusedVariables false
namespace Go.Proofs.Ytejedmocjdcdgaa.D
open Go Go.Det

/-! ### the law's sectors -/
def altSD (o1 o2 o3 o4 : Option Value) (f : Int → Int → Bool → Option Addr → Nat → Nat → Option (Value × AH)) (z : Option (Value × AH)) : Option (Value × AH) :=
  match o1, o2, o3, o4 with
  | some (.int .i64 a), some (.int .i64 b), some (.bool t), some (.slice p l c) => f a b t p l c
  | _, _, _, _ => z
theorem altSD_val (a b : Int) (t : Bool) (p : Option Addr) (l c : Nat) (f : Int → Int → Bool → Option Addr → Nat → Nat → Option (Value × AH)) (z : Option (Value × AH)) : altSD (some (.int .i64 a)) (some (.int .i64 b)) (some (.bool t)) (some (.slice p l c)) f z = f a b t p l c := rfl
theorem v_b4sd {P : Program} {T : XTab} (fr : Fr) (H : AH) (dd : Option Nat) (x y t u : Operand) (z0 z1 z2 z3 : Value) : xval P (xc P T) ⟨dd, .build [z0, z1, z2, z3] [(0, 1, x), (1, 1, y), (3, 1, t), (2, 1, u)], none⟩ fr H =
    altSD (ev fr x) (ev fr y) (ev fr t) (ev fr u) (fun a b t p l c => some (.agg #[.int .i64 a, .int .i64 b, .slice p l c, .bool t], H)) (xop P fr H (.build [z0, z1, z2, z3] [(0, 1, x), (1, 1, y), (3, 1, t), (2, 1, u)])) := by
  rw [xval_op dd _ fr H rfl]
  unfold altSD
  split
  · rename_i a b t p l c h1 h2 h3 h4
    rw [e_build]
    simp only [xfill, h1, h2, h3, h4]
    rfl
  · rfl
set_option maxHeartbeats 2000000 in
theorem sectors_l0 (n2 B E : Nat) (vo w a b d : Value) (hEw : ¬ inB w E) (x y N1 i1 : Int) (hx0 : 0 ≤ x) (hx1 : x < 256) (hy0 : 0 ≤ y) (hy1 : y < 9) (r : Nat) : ∀ (j : Nat) (bs : List Int) (H : AH) (N : Int) (Q : XExit → Fr → AH → Prop), OwnB n2 H w bs → B8 bs → n2 ≤ H.n → H.get E = some ⟨[a, b, w, d], 1, false, false⟩ → E < H.n → bs.length ≤ 1000 → j + r = bs.length → N = (bs.length : Int) →
    (∀ H' bs', OwnB n2 H' w bs' → B8 bs' → bs'.length = bs.length → H.n ≤ H'.n → (∀ e, e < H.n → ¬ inB w e → H'.get e = H.get e) → Q (.exit 2) [(3, .pointer (some ⟨B, 0, none⟩)), (4, vo), (5, .int .i64 x), (6, .int .i64 y), (7, .pointer (some ⟨E, 0, none⟩)), (13, .int .i64 N1), (14, .int .i64 i1), (31, .int .i64 N), (32, .int .i64 N), (33, .bool false)] H') →
    Run Try.prog tab (.loop xbakekeep2_sectors_l0) [(3, .pointer (some ⟨B, 0, none⟩)), (4, vo), (5, .int .i64 x), (6, .int .i64 y), (7, .pointer (some ⟨E, 0, none⟩)), (13, .int .i64 N1), (14, .int .i64 i1), (31, .int .i64 N), (32, .int .i64 (j : Int))] H Q := by
  induction r with
  | zero =>
    intro j bs H N Q ho h8 hn hE hEn hbl hj hN hq
    rw [run_loop]
    generalize hL : XCode.loop xbakekeep2_sectors_l0 = L
    have hjN : (j : Int) = N := by omega
    rw [hjN]
    have hf : ¬ N < N := by omega
    simp only [xbakekeep2_sectors_l0, ofArgs, run_seq, run_block, run_ops, run_skip, run_exit, run_ret, thenQ_normal, thenQ_exit, thenQ_ret, blockQ_normal, blockQ_exit, blockQ_ret, retQ_ret, retQ_normal, ops_nil, ops_none, got_some, ops_wT, ops_wTn, ops_wF, ops_wFn, ops_wU, dops_wT, dops_wTn, dops_wF, dops_wFn, dops_wU, run_condT, run_condF, alt2_int, altB_bool, altI_int, altBB_bool, v_min, v_max, v_not, v_neg, optEv_none, optEv_some, isSome'_none, isSome'_some, pExt0, pExt1, pExt2, Bool.false_and, Bool.true_and, Bool.not_true, Bool.not_false, cond_true, cond_false, dops_nil, dops_none, xval_call, v_mov, v_bin, v_len, v_ext, v_idxA, v_ld, v_st, v_app, v_appN, v_cvs, v_bs1, pBs1, v_slc, v_conv, v_fld, v_fldA, v_new, v_box, v_mks, v_copy, v_isnil, v_nilck, v_pick, ev, evs_nil, evs_cons, fr_get_cons, fr_put_nil, fr_put_cons, fr_put_some, fr_put_none, fr_keep_nil, fr_keep_cons, fr_has_nil, fr_has_cons, Option.bind_some, Option.map_some, xbin, ibin, xresult_eq, xress_nil, xress_tmp, resV, ex_some, if_true, if_false, ite_true, ite_false, reduceIte, reduceCtorEq, Nat.reduceEqDiff, Nat.reduceLT, Nat.reduceLeDiff, Int.reduceLT, Int.reduceLE, Nat.zero_add, Nat.reduceAdd, Bool.false_eq_true, decide_eq_true_eq, decide_eq_false_iff_not, true_implies, false_implies, and_true, true_and, hf, decide_false]
    exact hq H bs ho h8 rfl (Nat.le_refl _) (fun _ _ _ => rfl)
  | succ r ih =>
    intro j bs H N Q ho h8 hn hE hEn hbl hj hN hq
    rw [run_loop]
    generalize hL : XCode.loop xbakekeep2_sectors_l0 = L
    have hlt : (j : Int) < N := by omega
    have l2 := bx4_2 hE
    have m0 : 0 ≤ (j : Int) * y := Int.mul_nonneg (by omega) hy0
    have m1 : (j : Int) * y ≤ 1000 * 9 := Int.mul_le_mul (by omega) (by omega) hy0 (by omega)
    have w1 := wrI ((j : Int) * y) (by omega) (by omega)
    have w2 := wrI (x + (j : Int) * y) (by omega) (by omega)
    have w8 := wrU8m (x + (j : Int) * y)
    have c0 := Int.emod_nonneg (x + (j : Int) * y) (by decide : (256 : Int) ≠ 0)
    have c1 := Int.emod_lt_of_pos (x + (j : Int) * y) (by decide : (0 : Int) < 256)
    have e3 := pIdx_one ho.1 .i64 (j : Int) j rfl (by omega)
    have w4 := wrI ((j : Int) + 1) (by omega) (by omega)
    simp only [xbakekeep2_sectors_l0, ofArgs, run_seq, run_block, run_ops, run_skip, run_exit, run_ret, thenQ_normal, thenQ_exit, thenQ_ret, blockQ_normal, blockQ_exit, blockQ_ret, retQ_ret, retQ_normal, ops_nil, ops_none, got_some, ops_wT, ops_wTn, ops_wF, ops_wFn, ops_wU, dops_wT, dops_wTn, dops_wF, dops_wFn, dops_wU, run_condT, run_condF, alt2_int, altB_bool, altI_int, altBB_bool, v_min, v_max, v_not, v_neg, optEv_none, optEv_some, isSome'_none, isSome'_some, pExt0, pExt1, pExt2, Bool.false_and, Bool.true_and, Bool.not_true, Bool.not_false, cond_true, cond_false, dops_nil, dops_none, xval_call, v_mov, v_bin, v_len, v_ext, v_idxA, v_ld, v_st, v_app, v_appN, v_cvs, v_bs1, pBs1, v_slc, v_conv, v_fld, v_fldA, v_new, v_box, v_mks, v_copy, v_isnil, v_nilck, v_pick, ev, evs_nil, evs_cons, fr_get_cons, fr_put_nil, fr_put_cons, fr_put_some, fr_put_none, fr_keep_nil, fr_keep_cons, fr_has_nil, fr_has_cons, Option.bind_some, Option.map_some, xbin, ibin, xresult_eq, xress_nil, xress_tmp, resV, ex_some, if_true, if_false, ite_true, ite_false, reduceIte, reduceCtorEq, Nat.reduceEqDiff, Nat.reduceLT, Nat.reduceLeDiff, Int.reduceLT, Int.reduceLE, Nat.zero_add, Nat.reduceAdd, Bool.false_eq_true, decide_eq_true_eq, decide_eq_false_iff_not, true_implies, false_implies, and_true, true_and, hlt, decide_true, fldA2, l2, w1, w2, pConv, w8, e3]
    refine OwnB.flip ho (by omega) ?_
    intro H4 o4 s4
    simp only [ofArgs, run_seq, run_block, run_ops, run_skip, run_exit, run_ret, thenQ_normal, thenQ_exit, thenQ_ret, blockQ_normal, blockQ_exit, blockQ_ret, retQ_ret, retQ_normal, ops_nil, ops_none, got_some, ops_wT, ops_wTn, ops_wF, ops_wFn, ops_wU, dops_wT, dops_wTn, dops_wF, dops_wFn, dops_wU, run_condT, run_condF, alt2_int, altB_bool, altI_int, altBB_bool, v_min, v_max, v_not, v_neg, optEv_none, optEv_some, isSome'_none, isSome'_some, pExt0, pExt1, pExt2, Bool.false_and, Bool.true_and, Bool.not_true, Bool.not_false, cond_true, cond_false, dops_nil, dops_none, xval_call, v_mov, v_bin, v_len, v_ext, v_idxA, v_ld, v_st, v_app, v_appN, v_cvs, v_bs1, pBs1, v_slc, v_conv, v_fld, v_fldA, v_new, v_box, v_mks, v_copy, v_isnil, v_nilck, v_pick, ev, evs_nil, evs_cons, fr_get_cons, fr_put_nil, fr_put_cons, fr_put_some, fr_put_none, fr_keep_nil, fr_keep_cons, fr_has_nil, fr_has_cons, Option.bind_some, Option.map_some, xbin, ibin, xresult_eq, xress_nil, xress_tmp, resV, ex_some, if_true, if_false, ite_true, ite_false, reduceIte, reduceCtorEq, Nat.reduceEqDiff, Nat.reduceLT, Nat.reduceLeDiff, Int.reduceLT, Int.reduceLE, Nat.zero_add, Nat.reduceAdd, Bool.false_eq_true, decide_eq_true_eq, decide_eq_false_iff_not, true_implies, false_implies, and_true, true_and, w4]
    subst hL
    have hE4 := (s4.get E hEn hEw).trans hE
    have n4 := s4.n
    refine ih (j + 1) _ H4 N Q o4 (fun b hb => ?_) (by omega) hE4 (by omega) (by simpa using hbl) (by simp; omega) (by simpa using hN) ?_
    · rcases List.mem_or_eq_of_mem_set hb with h | h
      · exact h8 b h
      · subst h; exact ⟨c0, c1⟩
    · intro H5 bs' o5 h85 hl5 n5 k5
      exact hq H5 bs' o5 h85 (by simpa using hl5) (by omega) (fun e he hv => (k5 e (by omega) hv).trans (s4.get e he hv))

set_option maxHeartbeats 8000000 in
theorem sectors_l1 (nS B n1 : Nat) (hBn : B < n1) (r : Nat) : ∀ (lo : List SD) (vo : Value) (lst : List Int) (vs : Value) (H : AH) (i N : Int) (Q : XExit → Fr → AH → Prop), Strm nS H B vs lst → OutD n1 H vo lo → (∀ t ∈ lo, ∀ b, inB t.w b → n1 ≤ b) → n1 ≤ H.n → (∀ s ∈ lo, SdOk s) → lo.length + r ≤ 10 → i + r = N → 0 ≤ i → N ≤ 10 →
    (∀ H' vo' lo', OutD n1 H' vo' lo' → (∀ s ∈ lo', SdOk s) → lo'.length ≤ 10 → H.n ≤ H'.n → (∀ d, d < n1 → d ≠ B → H'.get d = H.get d) → Q (.exit 0) [(3, .pointer (some ⟨B, 0, none⟩)), (4, vo'), (13, .int .i64 N), (14, .int .i64 N), (15, .bool false)] H') →
    Run Try.prog tab (.loop xbakekeep2_sectors_l1) [(3, .pointer (some ⟨B, 0, none⟩)), (4, vo), (13, .int .i64 N), (14, .int .i64 i)] H Q := by
  induction r with
  | zero =>
    intro lo vo lst vs H i N Q hs ho hlo hn hok hl hi hi0 hN hq
    rw [run_loop]
    generalize hL : XCode.loop xbakekeep2_sectors_l1 = L
    have hiN : i = N := by omega
    subst hiN
    have hf : ¬ i < i := by omega
    simp only [xbakekeep2_sectors_l1, ofArgs, run_seq, run_block, run_ops, run_skip, run_exit, run_ret, thenQ_normal, thenQ_exit, thenQ_ret, blockQ_normal, blockQ_exit, blockQ_ret, retQ_ret, retQ_normal, ops_nil, ops_none, got_some, ops_wT, ops_wTn, ops_wF, ops_wFn, ops_wU, dops_wT, dops_wTn, dops_wF, dops_wFn, dops_wU, run_condT, run_condF, alt2_int, altB_bool, altI_int, altBB_bool, v_min, v_max, v_not, v_neg, optEv_none, optEv_some, isSome'_none, isSome'_some, pExt0, pExt1, pExt2, Bool.false_and, Bool.true_and, Bool.not_true, Bool.not_false, cond_true, cond_false, dops_nil, dops_none, xval_call, v_mov, v_bin, v_len, v_ext, v_idxA, v_ld, v_st, v_app, v_appN, v_cvs, v_bs1, pBs1, v_slc, v_conv, v_fld, v_fldA, v_new, v_box, v_mks, v_copy, v_isnil, v_nilck, v_pick, ev, evs_nil, evs_cons, fr_get_cons, fr_put_nil, fr_put_cons, fr_put_some, fr_put_none, fr_keep_nil, fr_keep_cons, fr_has_nil, fr_has_cons, Option.bind_some, Option.map_some, xbin, ibin, xresult_eq, xress_nil, xress_tmp, resV, ex_some, if_true, if_false, ite_true, ite_false, reduceIte, reduceCtorEq, Nat.reduceEqDiff, Nat.reduceLT, Nat.reduceLeDiff, Int.reduceLT, Int.reduceLE, Nat.zero_add, Nat.reduceAdd, Bool.false_eq_true, decide_eq_true_eq, decide_eq_false_iff_not, true_implies, false_implies, and_true, true_and, hf, decide_false]
    exact hq H vo lo ho hok (by omega) (Nat.le_refl _) (fun _ _ _ => rfl)
  | succ r ih =>
    intro lo vo lst vs H i N Q hs ho hlo hn hok hl hi hi0 hN hq
    rw [run_loop]
    generalize hL : XCode.loop xbakekeep2_sectors_l1 = L
    have hlt : i < N := by omega
    have hBH := hs.lt
    have nb := hs.nb
    simp only [xbakekeep2_sectors_l1, ofArgs, run_seq, run_block, run_ops, run_skip, run_exit, run_ret, thenQ_normal, thenQ_exit, thenQ_ret, blockQ_normal, blockQ_exit, blockQ_ret, retQ_ret, retQ_normal, ops_nil, ops_none, got_some, ops_wT, ops_wTn, ops_wF, ops_wFn, ops_wU, dops_wT, dops_wTn, dops_wF, dops_wFn, dops_wU, run_condT, run_condF, alt2_int, altB_bool, altI_int, altBB_bool, v_min, v_max, v_not, v_neg, optEv_none, optEv_some, isSome'_none, isSome'_some, pExt0, pExt1, pExt2, Bool.false_and, Bool.true_and, Bool.not_true, Bool.not_false, cond_true, cond_false, dops_nil, dops_none, xval_call, v_mov, v_bin, v_len, v_ext, v_idxA, v_ld, v_st, v_app, v_appN, v_cvs, v_bs1, pBs1, v_slc, v_conv, v_fld, v_fldA, v_new, v_box, v_mks, v_copy, v_isnil, v_nilck, v_pick, ev, evs_nil, evs_cons, fr_get_cons, fr_put_nil, fr_put_cons, fr_put_some, fr_put_none, fr_keep_nil, fr_keep_cons, fr_has_nil, fr_has_cons, Option.bind_some, Option.map_some, xbin, ibin, xresult_eq, xress_nil, xress_tmp, resV, ex_some, if_true, if_false, ite_true, ite_false, reduceIte, reduceCtorEq, Nat.reduceEqDiff, Nat.reduceLT, Nat.reduceLeDiff, Int.reduceLT, Int.reduceLE, Nat.zero_add, Nat.reduceAdd, Bool.false_eq_true, decide_eq_true_eq, decide_eq_false_iff_not, true_implies, false_implies, and_true, true_and, hlt, decide_true]
    refine next_ok nS B vs lst 256 (by decide) (by decide) H _ hs ?_
    intro v1 H1 n1' g1 st1
    have x0 := Int.emod_nonneg (lst.headD 0) (by decide : (256 : Int) ≠ 0)
    have x1 := Int.emod_lt_of_pos (lst.headD 0) (by decide : (0 : Int) < 256)
    generalize lst.headD 0 % 256 = x at *
    refine next_ok nS B v1 lst.tail 9 (by decide) (by decide) H1 _ st1 ?_
    intro v2 H2 n2' g2 st2
    have y0 := Int.emod_nonneg (lst.tail.headD 0) (by decide : (9 : Int) ≠ 0)
    have y1 := Int.emod_lt_of_pos (lst.tail.headD 0) (by decide : (0 : Int) < 9)
    generalize lst.tail.headD 0 % 9 = y at *
    refine run_dops _ _ _ _ _ rfl ?_
    simp only [ofArgs, run_seq, run_block, run_ops, run_skip, run_exit, run_ret, thenQ_normal, thenQ_exit, thenQ_ret, blockQ_normal, blockQ_exit, blockQ_ret, retQ_ret, retQ_normal, ops_nil, ops_none, got_some, ops_wT, ops_wTn, ops_wF, ops_wFn, ops_wU, dops_wT, dops_wTn, dops_wF, dops_wFn, dops_wU, run_condT, run_condF, alt2_int, altB_bool, altI_int, altBB_bool, v_min, v_max, v_not, v_neg, optEv_none, optEv_some, isSome'_none, isSome'_some, pExt0, pExt1, pExt2, Bool.false_and, Bool.true_and, Bool.not_true, Bool.not_false, cond_true, cond_false, dops_nil, dops_none, xval_call, v_mov, v_bin, v_len, v_ext, v_idxA, v_ld, v_st, v_app, v_appN, v_cvs, v_bs1, pBs1, v_slc, v_conv, v_fld, v_fldA, v_new, v_box, v_mks, v_copy, v_isnil, v_nilck, v_pick, ev, evs_nil, evs_cons, fr_get_cons, fr_put_nil, fr_put_cons, fr_put_some, fr_put_none, fr_keep_nil, fr_keep_cons, fr_has_nil, fr_has_cons, Option.bind_some, Option.map_some, xbin, ibin, xresult_eq, xress_nil, xress_tmp, resV, ex_some, if_true, if_false, ite_true, ite_false, reduceIte, reduceCtorEq, Nat.reduceEqDiff, Nat.reduceLT, Nat.reduceLeDiff, Int.reduceLT, Int.reduceLE, Nat.zero_add, Nat.reduceAdd, Bool.false_eq_true, decide_eq_true_eq, decide_eq_false_iff_not, true_implies, false_implies, and_true, true_and]
    refine next_ok nS B v2 lst.tail.tail 3 (by decide) (by decide) H2 _ st2 ?_
    intro v3 H3 n3' g3 st3
    have t0 := Int.emod_nonneg (lst.tail.tail.headD 0) (by decide : (3 : Int) ≠ 0)
    have t1 := Int.emod_lt_of_pos (lst.tail.tail.headD 0) (by decide : (0 : Int) < 3)
    generalize lst.tail.tail.headD 0 % 3 = tr at *
    refine next_ok nS B v3 lst.tail.tail.tail 4 (by decide) (by decide) H3 _ st3 ?_
    intro v4 H4 n4' g4 st4
    have u0 := Int.emod_nonneg (lst.tail.tail.tail.headD 0) (by decide : (4 : Int) ≠ 0)
    have u1 := Int.emod_lt_of_pos (lst.tail.tail.tail.headD 0) (by decide : (0 : Int) < 4)
    generalize lst.tail.tail.tail.headD 0 % 4 = nu at *
    refine next_ok nS B v4 lst.tail.tail.tail.tail 4 (by decide) (by decide) H4 _ st4 ?_
    intro v5 H5 n5' g5 st5
    generalize lst.tail.tail.tail.tail.headD 0 % 4 = bd at *
    have gg : ∀ d, d ≠ B → H5.get d = H.get d := fun d hd => (g5 d hd).trans ((g4 d hd).trans ((g3 d hd).trans ((g2 d hd).trans (g1 d hd))))
    have nn : H5.n = H.n := by omega
    have hmk := pMks_ok (.int .u8 0) 128 (by omega) .i64 H5 128 rfl
    have x6 := hext_push H5 ⟨rep 128 [.int .u8 0], 1, false, false⟩
    have n6 : (H5.push ⟨rep 128 [.int .u8 0], 1, false, false⟩).n = H5.n + 1 := rfl
    have ob : OwnB H5.n (H5.push ⟨rep 128 [.int .u8 0], 1, false, false⟩) (.slice (some ⟨H5.n, 0, none⟩) 128 128) (List.replicate 128 0) := by
      have hp := Own.pushed H5 (rep 128 [.int .u8 0]) 1 128 false (by rw [rep_length]; rfl)
      unfold OwnB
      rw [rep_one] at hp
      simpa [rep_one] using hp
    simp only [ofArgs, run_seq, run_block, run_ops, run_skip, run_exit, run_ret, thenQ_normal, thenQ_exit, thenQ_ret, blockQ_normal, blockQ_exit, blockQ_ret, retQ_ret, retQ_normal, ops_nil, ops_none, got_some, ops_wT, ops_wTn, ops_wF, ops_wFn, ops_wU, dops_wT, dops_wTn, dops_wF, dops_wFn, dops_wU, run_condT, run_condF, alt2_int, altB_bool, altI_int, altBB_bool, v_min, v_max, v_not, v_neg, optEv_none, optEv_some, isSome'_none, isSome'_some, pExt0, pExt1, pExt2, Bool.false_and, Bool.true_and, Bool.not_true, Bool.not_false, cond_true, cond_false, dops_nil, dops_none, xval_call, v_mov, v_bin, v_len, v_ext, v_idxA, v_ld, v_st, v_app, v_appN, v_cvs, v_bs1, pBs1, v_slc, v_conv, v_fld, v_fldA, v_new, v_box, v_mks, v_copy, v_isnil, v_nilck, v_pick, ev, evs_nil, evs_cons, fr_get_cons, fr_put_nil, fr_put_cons, fr_put_some, fr_put_none, fr_keep_nil, fr_keep_cons, fr_has_nil, fr_has_cons, Option.bind_some, Option.map_some, xbin, ibin, xresult_eq, xress_nil, xress_tmp, resV, ex_some, if_true, if_false, ite_true, ite_false, reduceIte, reduceCtorEq, Nat.reduceEqDiff, Nat.reduceLT, Nat.reduceLeDiff, Int.reduceLT, Int.reduceLE, Nat.zero_add, Nat.reduceAdd, Bool.false_eq_true, decide_eq_true_eq, decide_eq_false_iff_not, true_implies, false_implies, and_true, true_and, hmk, v_b4sd, altSD_val]
    generalize H5.push ⟨rep 128 [.int .u8 0], 1, false, false⟩ = H6 at *
    generalize hw : Value.slice (some ⟨H5.n, 0, none⟩) 128 128 = w at *
    have hwE : ∀ b, inB w b → b = H5.n := fun b hb => by
      subst hw
      obtain ⟨o, l, c, e⟩ := hb
      simp only [Value.slice.injEq, Option.some.injEq, Addr.mk.injEq] at e
      omega
    obtain ⟨a1, a2⟩ := slice_one ob.1
    have stE := bxS_st H6 ⟨tr, nu, w, [], bd == 1⟩ a1
    have xE := bxS_ext H6 ⟨tr, nu, w, [], bd == 1⟩
    have gE := bxS_get H6 ⟨tr, nu, w, [], bd == 1⟩
    have nE := bxS_n H6 ⟨tr, nu, w, [], bd == 1⟩
    simp only at stE gE
    have l2 := bx4_2 gE
    have ob7 := Own.ext xE ob
    have hlenw := byts_len' (ob7.1 : Byts _ w (List.replicate 128 0))
    rw [List.length_replicate] at hlenw
    simp only [ofArgs, run_seq, run_block, run_ops, run_skip, run_exit, run_ret, thenQ_normal, thenQ_exit, thenQ_ret, blockQ_normal, blockQ_exit, blockQ_ret, retQ_ret, retQ_normal, ops_nil, ops_none, got_some, ops_wT, ops_wTn, ops_wF, ops_wFn, ops_wU, dops_wT, dops_wTn, dops_wF, dops_wFn, dops_wU, run_condT, run_condF, alt2_int, altB_bool, altI_int, altBB_bool, v_min, v_max, v_not, v_neg, optEv_none, optEv_some, isSome'_none, isSome'_some, pExt0, pExt1, pExt2, Bool.false_and, Bool.true_and, Bool.not_true, Bool.not_false, cond_true, cond_false, dops_nil, dops_none, xval_call, v_mov, v_bin, v_len, v_ext, v_idxA, v_ld, v_st, v_app, v_appN, v_cvs, v_bs1, pBs1, v_slc, v_conv, v_fld, v_fldA, v_new, v_box, v_mks, v_copy, v_isnil, v_nilck, v_pick, ev, evs_nil, evs_cons, fr_get_cons, fr_put_nil, fr_put_cons, fr_put_some, fr_put_none, fr_keep_nil, fr_keep_cons, fr_has_nil, fr_has_cons, Option.bind_some, Option.map_some, xbin, ibin, xresult_eq, xress_nil, xress_tmp, resV, ex_some, if_true, if_false, ite_true, ite_false, reduceIte, reduceCtorEq, Nat.reduceEqDiff, Nat.reduceLT, Nat.reduceLeDiff, Int.reduceLT, Int.reduceLE, Nat.zero_add, Nat.reduceAdd, Bool.false_eq_true, decide_eq_true_eq, decide_eq_false_iff_not, true_implies, false_implies, and_true, true_and, stE, fldA2, l2, hlenw]
    generalize bxS H6 ⟨tr, nu, w, [], bd == 1⟩ = H7 at *
    have n128 : ((128 : Nat) : Int) = 128 := rfl
    have j0 : ((0 : Nat) : Int) = 0 := rfl
    rw [n128, ← j0]
    refine sectors_l0 H5.n B H6.n vo w _ _ _ (fun h => by have := hwE _ h; omega) x y N i x0 x1 y0 y1 128 0 (List.replicate 128 0) H7 128 _ ob7 (fun b hb => by have := List.eq_of_mem_replicate hb; omega) (by omega) gE (by omega) (by simp) (by simp) (by simp) ?_
    intro H8 bs o8 h88 hl8 n8 k8
    rw [List.length_replicate] at hl8
    have gE8 := (k8 H6.n (by omega) (fun h => by have := hwE _ h; omega)).trans gE
    have l8 := bx4_ld gE8
    have ps := fun H => pS4_of ⟨tr, nu, w, bs, bd == 1⟩ H a1
    simp only at ps
    have w3 := wrI (i + 1) (by omega) (by omega)
    simp only [ofArgs, run_seq, run_block, run_ops, run_skip, run_exit, run_ret, thenQ_normal, thenQ_exit, thenQ_ret, blockQ_normal, blockQ_exit, blockQ_ret, retQ_ret, retQ_normal, ops_nil, ops_none, got_some, ops_wT, ops_wTn, ops_wF, ops_wFn, ops_wU, dops_wT, dops_wTn, dops_wF, dops_wFn, dops_wU, run_condT, run_condF, alt2_int, altB_bool, altI_int, altBB_bool, v_min, v_max, v_not, v_neg, optEv_none, optEv_some, isSome'_none, isSome'_some, pExt0, pExt1, pExt2, Bool.false_and, Bool.true_and, Bool.not_true, Bool.not_false, cond_true, cond_false, dops_nil, dops_none, xval_call, v_mov, v_bin, v_len, v_ext, v_idxA, v_ld, v_st, v_app, v_appN, v_cvs, v_bs1, pBs1, v_slc, v_conv, v_fld, v_fldA, v_new, v_box, v_mks, v_copy, v_isnil, v_nilck, v_pick, ev, evs_nil, evs_cons, fr_get_cons, fr_put_nil, fr_put_cons, fr_put_some, fr_put_none, fr_keep_nil, fr_keep_cons, fr_has_nil, fr_has_cons, Option.bind_some, Option.map_some, xbin, ibin, xresult_eq, xress_nil, xress_tmp, resV, ex_some, if_true, if_false, ite_true, ite_false, reduceIte, reduceCtorEq, Nat.reduceEqDiff, Nat.reduceLT, Nat.reduceLeDiff, Int.reduceLT, Int.reduceLE, Nat.zero_add, Nat.reduceAdd, Bool.false_eq_true, decide_eq_true_eq, decide_eq_false_iff_not, true_implies, false_implies, and_true, true_and, l8, v_bs41, ps]
    have z8 : ∀ d, d < H5.n → d ≠ B → H8.get d = H.get d := fun d hd hdB => (k8 d (by omega) (fun h => by have := hwE _ h; omega)).trans ((xE.2 d (by omega)).trans ((x6.2 d hd).trans (gg d hdB)))
    have zB : H8.get B = H5.get B := (k8 B (by omega) (fun h => by have := hwE _ h; omega)).trans ((xE.2 B (by omega)).trans (x6.2 B (by omega)))
    have ho8 : OutD n1 H8 vo lo := ho.same (by omega) hlo fun b hb hb2 => z8 b (by omega) (by omega)
    have hvol : ∀ b, inB vo b → b < H.n := fun b hb => ho.own.1.lt hb
    refine OL.push [⟨tr, nu, w, bs, bd == 1⟩] ho8.own (by omega) (by show ([.int .i64 tr, .int .i64 nu, w, .bool (bd == 1)] : List Value).all one = true; simp [a1, show ∀ t, one (.bool t) = true from fun _ => rfl, show ∀ t, one (.int .i64 t) = true from fun _ => rfl]) 48 (by decide) (by simp; omega) ?_
    intro vo' H9 o9 k9 g9 new9 n9
    simp only [ofArgs, run_seq, run_block, run_ops, run_skip, run_exit, run_ret, thenQ_normal, thenQ_exit, thenQ_ret, blockQ_normal, blockQ_exit, blockQ_ret, retQ_ret, retQ_normal, ops_nil, ops_none, got_some, ops_wT, ops_wTn, ops_wF, ops_wFn, ops_wU, dops_wT, dops_wTn, dops_wF, dops_wFn, dops_wU, run_condT, run_condF, alt2_int, altB_bool, altI_int, altBB_bool, v_min, v_max, v_not, v_neg, optEv_none, optEv_some, isSome'_none, isSome'_some, pExt0, pExt1, pExt2, Bool.false_and, Bool.true_and, Bool.not_true, Bool.not_false, cond_true, cond_false, dops_nil, dops_none, xval_call, v_mov, v_bin, v_len, v_ext, v_idxA, v_ld, v_st, v_app, v_appN, v_cvs, v_bs1, pBs1, v_slc, v_conv, v_fld, v_fldA, v_new, v_box, v_mks, v_copy, v_isnil, v_nilck, v_pick, ev, evs_nil, evs_cons, fr_get_cons, fr_put_nil, fr_put_cons, fr_put_some, fr_put_none, fr_keep_nil, fr_keep_cons, fr_has_nil, fr_has_cons, Option.bind_some, Option.map_some, xbin, ibin, xresult_eq, xress_nil, xress_tmp, resV, ex_some, if_true, if_false, ite_true, ite_false, reduceIte, reduceCtorEq, Nat.reduceEqDiff, Nat.reduceLT, Nat.reduceLeDiff, Int.reduceLT, Int.reduceLE, Nat.zero_add, Nat.reduceAdd, Bool.false_eq_true, decide_eq_true_eq, decide_eq_false_iff_not, true_implies, false_implies, and_true, true_and, w3]
    subst hL
    have hwvo : ∀ b, inB w b → ¬ inB vo b := fun b h1 h2 => by have := hwE b h1; have := hvol b h2; omega
    have hwb : ∀ b, inB w b → n1 ≤ b := fun b h1 => by have := hwE b h1; omega
    have st9 : Strm nS H9 B v5 lst.tail.tail.tail.tail.tail := st5.same (by omega) ((k9.2 B hBn).trans zB) (fun b hb => (k9.2 b (by omega)).trans ((z8 b (by omega) (by omega)).trans (gg b (by omega)).symm))
    refine ih (lo ++ [⟨tr, nu, w, bs, bd == 1⟩]) vo' _ v5 H9 (i + 1) N Q st9 ⟨o9, fun t ht => ?_, fun t ht b hb hv => ?_⟩ (fun t ht b hb => ?_) (by omega) (fun t ht => ?_) (by simp; omega) (by omega) (by omega) hN ?_
    · rcases List.mem_append.1 ht with h | h
      · exact Sl.same (ho8.byt t h) n9 fun b hb => g9 b ((ho8.byt t h).lt hb) (ho.dis t h b hb)
      · simp only [List.mem_singleton] at h
        subst h
        exact Sl.same o8.1 n9 fun b hb => g9 b (o8.1.lt hb) (hwvo b hb)
    · rcases new9 b hv with h2 | h2
      · rcases List.mem_append.1 ht with h | h
        · exact ho.dis t h b hb h2
        · simp only [List.mem_singleton] at h
          subst h
          exact hwvo b hb h2
      · rcases List.mem_append.1 ht with h | h
        · have := (ho8.byt t h).lt hb; omega
        · simp only [List.mem_singleton] at h
          subst h
          have := o8.1.lt hb; omega
    · rcases List.mem_append.1 ht with h | h
      · exact hlo t h b hb
      · simp only [List.mem_singleton] at h
        subst h
        exact hwb b hb
    · rcases List.mem_append.1 ht with h | h
      · exact hok t h
      · simp only [List.mem_singleton] at h
        subst h
        exact ⟨t0, by show tr ≤ 255; omega, u0, by show nu ≤ 255; omega, hl8, h88⟩
    · intro H10 vo10 lo10 o10 ok10 l10 n10 k10
      exact hq H10 vo10 lo10 o10 ok10 l10 (by omega) (fun d hd hdB => (k10 d hd hdB).trans ((k9.2 d hd).trans (z8 d (by omega) hdB)))
set_option maxHeartbeats 2000000 in
theorem sectors_ok (l : List Int) (s : Value) (H : AH) (Q : Value → AH → Prop) (hs : Ints H s l) (hq : ∀ vo lo H', OutD H.n H' vo lo → (∀ s ∈ lo, SdOk s) → lo.length ≤ 10 → HExt H H' → Q vo H') : Got (xc Try.prog tab 42 [s] H) Q := by
  refine got_call (res := [.tmp 2]) rfl ?_
  obtain ⟨q1, q2⟩ := slice_one hs
  have e2 := fun H => pMk1_slice H q1 q2
  have x1 := hext_push H ⟨[s], 1, false, false⟩
  have hn1 : (H.push ⟨[s], 1, false, false⟩).n = H.n + 1 := rfl
  have hst1 : Strm H.n (H.push ⟨[s], 1, false, false⟩) H.n s l := ⟨Nat.le_refl _, by omega, by rw [AH.get_push, if_pos rfl], Sl.ext x1 hs, fun b hb => Sl.lt hs hb⟩
  generalize hT : ((.seq (.ops [⟨some 51, .mov (.tmp 4), none⟩, ⟨some 2, .mov (.tmp 51), none⟩] [2]) .ret) : XCode) = T
  simp only [ofArgs, run_seq, run_block, run_ops, run_skip, run_exit, run_ret, thenQ_normal, thenQ_exit, thenQ_ret, blockQ_normal, blockQ_exit, blockQ_ret, retQ_ret, retQ_normal, ops_nil, ops_none, got_some, ops_wT, ops_wTn, ops_wF, ops_wFn, ops_wU, dops_wT, dops_wTn, dops_wF, dops_wFn, dops_wU, run_condT, run_condF, alt2_int, altB_bool, altI_int, altBB_bool, v_min, v_max, v_not, v_neg, optEv_none, optEv_some, isSome'_none, isSome'_some, pExt0, pExt1, pExt2, Bool.false_and, Bool.true_and, Bool.not_true, Bool.not_false, cond_true, cond_false, dops_nil, dops_none, xval_call, v_mov, v_bin, v_len, v_ext, v_idxA, v_ld, v_st, v_app, v_appN, v_cvs, v_bs1, pBs1, v_slc, v_conv, v_fld, v_fldA, v_new, v_box, v_mks, v_copy, v_isnil, v_nilck, v_pick, ev, evs_nil, evs_cons, fr_get_cons, fr_put_nil, fr_put_cons, fr_put_some, fr_put_none, fr_keep_nil, fr_keep_cons, fr_has_nil, fr_has_cons, Option.bind_some, Option.map_some, xbin, ibin, xresult_eq, xress_nil, xress_tmp, resV, ex_some, if_true, if_false, ite_true, ite_false, reduceIte, reduceCtorEq, Nat.reduceEqDiff, Nat.reduceLT, Nat.reduceLeDiff, Int.reduceLT, Int.reduceLE, Nat.zero_add, Nat.reduceAdd, Bool.false_eq_true, decide_eq_true_eq, decide_eq_false_iff_not, true_implies, false_implies, and_true, true_and, v_mk1, e2, box1]
  generalize H.push ⟨[s], 1, false, false⟩ = H1 at *
  refine next_ok H.n H.n s l 5 (by decide) (by decide) H1 _ hst1 ?_
  intro v3 H3 n3 g3 st3
  have z0 := Int.emod_nonneg (l.headD 0) (by decide : (5 : Int) ≠ 0)
  have z1 := Int.emod_lt_of_pos (l.headD 0) (by decide : (0 : Int) < 5)
  generalize l.headD 0 % 5 = N at *
  obtain ⟨r, hr⟩ : ∃ r : Nat, N = (r : Int) := ⟨N.toNat, by omega⟩
  refine sectors_l1 H.n H.n (H.n + 1) (by omega) r [] (.slice none 0 0) _ v3 H3 0 N _ st3 (OutD.nil _ _) (fun t ht => by simp at ht) (by omega) (fun t ht => by simp at ht) (by simp; omega) (by omega) (by omega) (by omega) ?_
  intro H4 vo lo o4 ok4 l4 n4 k4
  subst hT
  simp only [ofArgs, run_seq, run_block, run_ops, run_skip, run_exit, run_ret, thenQ_normal, thenQ_exit, thenQ_ret, blockQ_normal, blockQ_exit, blockQ_ret, retQ_ret, retQ_normal, ops_nil, ops_none, got_some, ops_wT, ops_wTn, ops_wF, ops_wFn, ops_wU, dops_wT, dops_wTn, dops_wF, dops_wFn, dops_wU, run_condT, run_condF, alt2_int, altB_bool, altI_int, altBB_bool, v_min, v_max, v_not, v_neg, optEv_none, optEv_some, isSome'_none, isSome'_some, pExt0, pExt1, pExt2, Bool.false_and, Bool.true_and, Bool.not_true, Bool.not_false, cond_true, cond_false, dops_nil, dops_none, xval_call, v_mov, v_bin, v_len, v_ext, v_idxA, v_ld, v_st, v_app, v_appN, v_cvs, v_bs1, pBs1, v_slc, v_conv, v_fld, v_fldA, v_new, v_box, v_mks, v_copy, v_isnil, v_nilck, v_pick, ev, evs_nil, evs_cons, fr_get_cons, fr_put_nil, fr_put_cons, fr_put_some, fr_put_none, fr_keep_nil, fr_keep_cons, fr_has_nil, fr_has_cons, Option.bind_some, Option.map_some, xbin, ibin, xresult_eq, xress_nil, xress_tmp, resV, ex_some, if_true, if_false, ite_true, ite_false, reduceIte, reduceCtorEq, Nat.reduceEqDiff, Nat.reduceLT, Nat.reduceLeDiff, Int.reduceLT, Int.reduceLE, Nat.zero_add, Nat.reduceAdd, Bool.false_eq_true, decide_eq_true_eq, decide_eq_false_iff_not, true_implies, false_implies, and_true, true_and]
  exact hq vo lo H4 (o4.le (by omega)) ok4 l4 ⟨by omega, fun d hd => (k4 d (by omega) (by omega)).trans ((g3 d (by omega)).trans (x1.2 d hd))⟩
end Go.Proofs.Ytejedmocjdcdgaa.D

set_option linter.unusedSimpArgs false
set_option linter.unusedVariables false
namespace Go.Proofs.Ytejedmocjdcdgaa.D
open Go Go.Det

/-! ### sectors are compared -/
theorem sameS_ok (p r : SD) (H : AH) (Q : Value → AH → Prop) (hp : Byts H p.w p.bs) (hr : Byts H r.w r.bs) (hpl : p.bs.length ≤ 1000) (hs : told p = told r) (hq : ∀ H', HExt H H' → Q (.bool true) H') :
    Got (xc Try.prog tab 95 [.agg #[.int .i64 p.tr, .int .i64 p.nu, p.w, .bool p.bad], .agg #[.int .i64 r.tr, .int .i64 r.nu, r.w, .bool r.bad]] H) Q := by
  obtain ⟨tr, nu, w, bs, bad⟩ := p
  obtain ⟨tr2, nu2, w2, bs2, bad2⟩ := r
  simp only [told, Prod.mk.injEq] at hs
  obtain ⟨rfl, rfl, rfl, rfl⟩ := hs
  refine got_call (res := [.tmp 4]) rfl ?_
  have v1 : vcells (.agg #[.int .i64 tr, .int .i64 nu, w, .bool bad]) = [.int .i64 tr, .int .i64 nu, w, .bool bad] := rfl
  have v2 : vcells (.agg #[.int .i64 tr, .int .i64 nu, w2, .bool bad]) = [.int .i64 tr, .int .i64 nu, w2, .bool bad] := rfl
  have x1 := hext_push H ⟨[.int .i64 tr, .int .i64 nu, w, .bool bad], 1, false, false⟩
  have x2 := hext_push (H.push ⟨[.int .i64 tr, .int .i64 nu, w, .bool bad], 1, false, false⟩) ⟨[.int .i64 tr, .int .i64 nu, w2, .bool bad], 1, false, false⟩
  have g1 : ((H.push ⟨[.int .i64 tr, .int .i64 nu, w, .bool bad], 1, false, false⟩).push ⟨[.int .i64 tr, .int .i64 nu, w2, .bool bad], 1, false, false⟩).get H.n = some ⟨[.int .i64 tr, .int .i64 nu, w, .bool bad], 1, false, false⟩ := by rw [AH.get_push, if_neg (by simp), AH.get_push, if_pos rfl]
  have g2 : ((H.push ⟨[.int .i64 tr, .int .i64 nu, w, .bool bad], 1, false, false⟩).push ⟨[.int .i64 tr, .int .i64 nu, w2, .bool bad], 1, false, false⟩).get (H.n + 1) = some ⟨[.int .i64 tr, .int .i64 nu, w2, .bool bad], 1, false, false⟩ := by rw [AH.get_push, if_pos (by simp)]
  have hp' := Sl.ext x2 (Sl.ext x1 hp)
  have hr' := Sl.ext x2 (Sl.ext x1 hr)
  have xx := x1.trans x2
  simp only [ofArgs, run_seq, run_block, run_ops, run_skip, run_exit, run_ret, thenQ_normal, thenQ_exit, thenQ_ret, blockQ_normal, blockQ_exit, blockQ_ret, retQ_ret, retQ_normal, ops_nil, ops_none, got_some, ops_wT, ops_wTn, ops_wF, ops_wFn, ops_wU, dops_wT, dops_wTn, dops_wF, dops_wFn, dops_wU, run_condT, run_condF, alt2_int, altB_bool, altI_int, altBB_bool, v_min, v_max, v_not, v_neg, optEv_none, optEv_some, isSome'_none, isSome'_some, pExt0, pExt1, pExt2, Bool.false_and, Bool.true_and, Bool.not_true, Bool.not_false, cond_true, cond_false, dops_nil, dops_none, xval_call, v_mov, v_bin, v_len, v_ext, v_idxA, v_ld, v_st, v_app, v_appN, v_cvs, v_bs1, pBs1, v_slc, v_conv, v_fld, v_fldA, v_new, v_box, v_mks, v_copy, v_isnil, v_nilck, v_pick, ev, evs_nil, evs_cons, fr_get_cons, fr_put_nil, fr_put_cons, fr_put_some, fr_put_none, fr_keep_nil, fr_keep_cons, fr_has_nil, fr_has_cons, Option.bind_some, Option.map_some, xbin, ibin, xresult_eq, xress_nil, xress_tmp, resV, ex_some, if_true, if_false, ite_true, ite_false, reduceIte, reduceCtorEq, Nat.reduceEqDiff, Nat.reduceLT, Nat.reduceLeDiff, Int.reduceLT, Int.reduceLE, Nat.zero_add, Nat.reduceAdd, Bool.false_eq_true, decide_eq_true_eq, decide_eq_false_iff_not, true_implies, false_implies, and_true, true_and, v1, v2, AH.push_n]
  generalize (H.push ⟨[.int .i64 tr, .int .i64 nu, w, .bool bad], 1, false, false⟩).push ⟨[.int .i64 tr, .int .i64 nu, w2, .bool bad], 1, false, false⟩ = H2 at *
  have a0 := bx4_0 g1
  have a1 := bx4_1 g1
  have a2 := bx4_2 g1
  have a3 := bx4_3 g1
  have b0 := bx4_0 g2
  have b1 := bx4_1 g2
  have b2 := bx4_2 g2
  have b3 := bx4_3 g2
  have r1 := equalB_xc bs bs w w2 H2 hp' hr' (by simp only at hpl; omega) (by simp only at hpl; omega)
  simp only [ofArgs, run_seq, run_block, run_ops, run_skip, run_exit, run_ret, thenQ_normal, thenQ_exit, thenQ_ret, blockQ_normal, blockQ_exit, blockQ_ret, retQ_ret, retQ_normal, ops_nil, ops_none, got_some, ops_wT, ops_wTn, ops_wF, ops_wFn, ops_wU, dops_wT, dops_wTn, dops_wF, dops_wFn, dops_wU, run_condT, run_condF, alt2_int, altB_bool, altI_int, altBB_bool, v_min, v_max, v_not, v_neg, optEv_none, optEv_some, isSome'_none, isSome'_some, pExt0, pExt1, pExt2, Bool.false_and, Bool.true_and, Bool.not_true, Bool.not_false, cond_true, cond_false, dops_nil, dops_none, xval_call, v_mov, v_bin, v_len, v_ext, v_idxA, v_ld, v_st, v_app, v_appN, v_cvs, v_bs1, pBs1, v_slc, v_conv, v_fld, v_fldA, v_new, v_box, v_mks, v_copy, v_isnil, v_nilck, v_pick, ev, evs_nil, evs_cons, fr_get_cons, fr_put_nil, fr_put_cons, fr_put_some, fr_put_none, fr_keep_nil, fr_keep_cons, fr_has_nil, fr_has_cons, Option.bind_some, Option.map_some, xbin, ibin, xresult_eq, xress_nil, xress_tmp, resV, ex_some, if_true, if_false, ite_true, ite_false, reduceIte, reduceCtorEq, Nat.reduceEqDiff, Nat.reduceLT, Nat.reduceLeDiff, Int.reduceLT, Int.reduceLE, Nat.zero_add, Nat.reduceAdd, Bool.false_eq_true, decide_eq_true_eq, decide_eq_false_iff_not, true_implies, false_implies, and_true, true_and, fldA0, fldA1, fldA2, fldA3, a0, a1, a2, a3, b0, b1, b2, b3, v_eqb tyB, r1, decide_true, beq_self_eq_true]
  exact hq _ xx
theorem eqs_l0 (v u : Value) (rest : List SD) : ∀ (rest2 pre pre2 : List SD) (H : AH) (i N : Int) (Q : XExit → Fr → AH → Prop), SDs H v (pre ++ rest) → SDs H u (pre2 ++ rest2) → pre.length = pre2.length → rest.map told = rest2.map told → (∀ p ∈ rest, p.bs.length ≤ 1000) → pre.length + rest.length ≤ 100000 → i = (pre.length : Int) → N = ((pre ++ rest).length : Int) →
    (∀ H', HExt H H' → Q (.exit 0) [(1, u), (2, .func (.func 95) #[] #[]), (15, v), (16, .int .i64 N), (17, .int .i64 N), (18, .bool false)] H') →
    Run Try.prog tab (.loop xslices_EqualFunc_Sapi_SectorData_Sapi_SectorData_api_SectorData_api_SectorData_l0) [(1, u), (2, .func (.func 95) #[] #[]), (15, v), (16, .int .i64 N), (17, .int .i64 i)] H Q := by
  induction rest with
  | nil =>
    intro rest2 pre pre2 H i N Q hv hu hpp hm hb hl hi hN hq
    rw [run_loop]
    generalize hL : XCode.loop xslices_EqualFunc_Sapi_SectorData_Sapi_SectorData_api_SectorData_api_SectorData_l0 = L
    have hiN : i = N := by simp at hN; omega
    subst hiN
    have hf : ¬ i < i := by omega
    simp only [xslices_EqualFunc_Sapi_SectorData_Sapi_SectorData_api_SectorData_api_SectorData_l0, ofArgs, run_seq, run_block, run_ops, run_skip, run_exit, run_ret, thenQ_normal, thenQ_exit, thenQ_ret, blockQ_normal, blockQ_exit, blockQ_ret, retQ_ret, retQ_normal, ops_nil, ops_none, got_some, ops_wT, ops_wTn, ops_wF, ops_wFn, ops_wU, dops_wT, dops_wTn, dops_wF, dops_wFn, dops_wU, run_condT, run_condF, alt2_int, altB_bool, altI_int, altBB_bool, v_min, v_max, v_not, v_neg, optEv_none, optEv_some, isSome'_none, isSome'_some, pExt0, pExt1, pExt2, Bool.false_and, Bool.true_and, Bool.not_true, Bool.not_false, cond_true, cond_false, dops_nil, dops_none, xval_call, v_mov, v_bin, v_len, v_ext, v_idxA, v_ld, v_st, v_app, v_appN, v_cvs, v_bs1, pBs1, v_slc, v_conv, v_fld, v_fldA, v_new, v_box, v_mks, v_copy, v_isnil, v_nilck, v_pick, ev, evs_nil, evs_cons, fr_get_cons, fr_put_nil, fr_put_cons, fr_put_some, fr_put_none, fr_keep_nil, fr_keep_cons, fr_has_nil, fr_has_cons, Option.bind_some, Option.map_some, xbin, ibin, xresult_eq, xress_nil, xress_tmp, resV, ex_some, if_true, if_false, ite_true, ite_false, reduceIte, reduceCtorEq, Nat.reduceEqDiff, Nat.reduceLT, Nat.reduceLeDiff, Int.reduceLT, Int.reduceLE, Nat.zero_add, Nat.reduceAdd, Bool.false_eq_true, decide_eq_true_eq, decide_eq_false_iff_not, true_implies, false_implies, and_true, true_and, hf, decide_false]
    exact hq H (HExt.refl H)
  | cons p rest ih =>
    intro rest2 pre pre2 H i N Q hv hu hpp hm hb hl hi hN hq
    cases rest2 with
    | nil => simp at hm
    | cons r rest2 =>
      simp only [List.map_cons, List.cons.injEq] at hm
      simp only [List.length_cons] at hl
      rw [run_loop]
      generalize hL : XCode.loop xslices_EqualFunc_Sapi_SectorData_Sapi_SectorData_api_SectorData_api_SectorData_l0 = L
      have hlt : i < N := by simp at hN; omega
      have e1 := sds_idx hv i hi
      have e2 := sds_ld hv
      have hbp := hv.2 p (by simp)
      have hbr := hu.2 r (by simp)
      obtain ⟨o1, o2⟩ := slice_one hbp
      obtain ⟨q1, q2⟩ := slice_one hbr
      have st := bxS_st H p o1
      have hx := bxS_ext H p
      have f2 := sds_ld (hu.ext hx)
      have f1' := sds_idx (hu.ext hx) i (by omega)
      have st2 := bxS_st (bxS H p) r q1
      have hx2 := bxS_ext (bxS H p) r
      have g1 := (hx2.2 H.n (by rw [bxS_n]; omega)).trans (bxS_get H p)
      have g2 := bxS_get (bxS H p) r
      have l1 := bx4_ld g1
      have l2 := bx4_ld g2
      have w3 := wrI (i + 1) (by omega) (by omega)
      have ea : (#[] : Array Value).toList ++ [.agg #[.int .i64 p.tr, .int .i64 p.nu, p.w, .bool p.bad], .agg #[.int .i64 r.tr, .int .i64 r.nu, r.w, .bool r.bad]] ++ (#[] : Array Value).toList = [.agg #[.int .i64 p.tr, .int .i64 p.nu, p.w, .bool p.bad], .agg #[.int .i64 r.tr, .int .i64 r.nu, r.w, .bool r.bad]] := rfl
      simp only [xslices_EqualFunc_Sapi_SectorData_Sapi_SectorData_api_SectorData_api_SectorData_l0, ofArgs, run_seq, run_block, run_ops, run_skip, run_exit, run_ret, thenQ_normal, thenQ_exit, thenQ_ret, blockQ_normal, blockQ_exit, blockQ_ret, retQ_ret, retQ_normal, ops_nil, ops_none, got_some, ops_wT, ops_wTn, ops_wF, ops_wFn, ops_wU, dops_wT, dops_wTn, dops_wF, dops_wFn, dops_wU, run_condT, run_condF, alt2_int, altB_bool, altI_int, altBB_bool, v_min, v_max, v_not, v_neg, optEv_none, optEv_some, isSome'_none, isSome'_some, pExt0, pExt1, pExt2, Bool.false_and, Bool.true_and, Bool.not_true, Bool.not_false, cond_true, cond_false, dops_nil, dops_none, xval_call, v_mov, v_bin, v_len, v_ext, v_idxA, v_ld, v_st, v_app, v_appN, v_cvs, v_bs1, pBs1, v_slc, v_conv, v_fld, v_fldA, v_new, v_box, v_mks, v_copy, v_isnil, v_nilck, v_pick, ev, evs_nil, evs_cons, fr_get_cons, fr_put_nil, fr_put_cons, fr_put_some, fr_put_none, fr_keep_nil, fr_keep_cons, fr_has_nil, fr_has_cons, Option.bind_some, Option.map_some, xbin, ibin, xresult_eq, xress_nil, xress_tmp, resV, ex_some, if_true, if_false, ite_true, ite_false, reduceIte, reduceCtorEq, Nat.reduceEqDiff, Nat.reduceLT, Nat.reduceLeDiff, Int.reduceLT, Int.reduceLE, Nat.zero_add, Nat.reduceAdd, Bool.false_eq_true, decide_eq_true_eq, decide_eq_false_iff_not, true_implies, false_implies, and_true, true_and, hlt, decide_true, e1, e2, st, f1', f2, st2, l1, l2, v_callv, pCallV_func, ea]
      refine sameS_ok p r _ _ (Sl.ext hx2 (Sl.ext hx hbp)) (Sl.ext hx2 (Sl.ext hx hbr)) (hb p (by simp)) hm.1 ?_
      intro H' x'
      simp only [ofArgs, run_seq, run_block, run_ops, run_skip, run_exit, run_ret, thenQ_normal, thenQ_exit, thenQ_ret, blockQ_normal, blockQ_exit, blockQ_ret, retQ_ret, retQ_normal, ops_nil, ops_none, got_some, ops_wT, ops_wTn, ops_wF, ops_wFn, ops_wU, dops_wT, dops_wTn, dops_wF, dops_wFn, dops_wU, run_condT, run_condF, alt2_int, altB_bool, altI_int, altBB_bool, v_min, v_max, v_not, v_neg, optEv_none, optEv_some, isSome'_none, isSome'_some, pExt0, pExt1, pExt2, Bool.false_and, Bool.true_and, Bool.not_true, Bool.not_false, cond_true, cond_false, dops_nil, dops_none, xval_call, v_mov, v_bin, v_len, v_ext, v_idxA, v_ld, v_st, v_app, v_appN, v_cvs, v_bs1, pBs1, v_slc, v_conv, v_fld, v_fldA, v_new, v_box, v_mks, v_copy, v_isnil, v_nilck, v_pick, ev, evs_nil, evs_cons, fr_get_cons, fr_put_nil, fr_put_cons, fr_put_some, fr_put_none, fr_keep_nil, fr_keep_cons, fr_has_nil, fr_has_cons, Option.bind_some, Option.map_some, xbin, ibin, xresult_eq, xress_nil, xress_tmp, resV, ex_some, if_true, if_false, ite_true, ite_false, reduceIte, reduceCtorEq, Nat.reduceEqDiff, Nat.reduceLT, Nat.reduceLeDiff, Int.reduceLT, Int.reduceLE, Nat.zero_add, Nat.reduceAdd, Bool.false_eq_true, decide_eq_true_eq, decide_eq_false_iff_not, true_implies, false_implies, and_true, true_and, w3]
      subst hL
      have xx := hx.trans (hx2.trans x')
      refine ih rest2 (pre ++ [p]) (pre2 ++ [r]) H' (i + 1) N Q (by rw [← List.append_cons]; exact hv.ext xx) (by rw [← List.append_cons]; exact hu.ext xx) (by simp; omega) hm.2 (fun p hp => hb p (by simp [hp])) (by simp; omega) (by simp; omega) (by simpa using hN) ?_
      intro H2 x2
      exact hq H2 (xx.trans x2)
theorem same_ok (v u : Value) (l l2 : List SD) (H : AH) (Q : Value → AH → Prop) (hv : SDs H v l) (hu : SDs H u l2) (hm : l.map told = l2.map told) (hb : ∀ p ∈ l, p.bs.length ≤ 1000) (hl : l.length ≤ 10000) (hq : ∀ H', HExt H H' → Q (.bool true) H') :
    Got (xc Try.prog tab 45 [v, u] H) Q := by
  refine got_call (res := [.tmp 4]) rfl ?_
  simp only [ofArgs, run_seq, run_block, run_ops, run_skip, run_exit, run_ret, thenQ_normal, thenQ_exit, thenQ_ret, blockQ_normal, blockQ_exit, blockQ_ret, retQ_ret, retQ_normal, ops_nil, ops_none, got_some, ops_wT, ops_wTn, ops_wF, ops_wFn, ops_wU, dops_wT, dops_wTn, dops_wF, dops_wFn, dops_wU, run_condT, run_condF, alt2_int, altB_bool, altI_int, altBB_bool, v_min, v_max, v_not, v_neg, optEv_none, optEv_some, isSome'_none, isSome'_some, pExt0, pExt1, pExt2, Bool.false_and, Bool.true_and, Bool.not_true, Bool.not_false, cond_true, cond_false, dops_nil, dops_none, xval_call, v_mov, v_bin, v_len, v_ext, v_idxA, v_ld, v_st, v_app, v_appN, v_cvs, v_bs1, pBs1, v_slc, v_conv, v_fld, v_fldA, v_new, v_box, v_mks, v_copy, v_isnil, v_nilck, v_pick, ev, evs_nil, evs_cons, fr_get_cons, fr_put_nil, fr_put_cons, fr_put_some, fr_put_none, fr_keep_nil, fr_keep_cons, fr_has_nil, fr_has_cons, Option.bind_some, Option.map_some, xbin, ibin, xresult_eq, xress_nil, xress_tmp, resV, ex_some, if_true, if_false, ite_true, ite_false, reduceIte, reduceCtorEq, Nat.reduceEqDiff, Nat.reduceLT, Nat.reduceLeDiff, Int.reduceLT, Int.reduceLE, Nat.zero_add, Nat.reduceAdd, Bool.false_eq_true, decide_eq_true_eq, decide_eq_false_iff_not, true_implies, false_implies, and_true, true_and]
  refine got_call (res := [.tmp 6]) rfl ?_
  have e1 : pLen v H = some (.int .i64 (l.length : Int), H) := pLen_ok hv.1
  have e2 : pLen u H = some (.int .i64 (l2.length : Int), H) := pLen_ok hu.1
  have hll : l2.length = l.length := by have := congrArg List.length hm; simpa using this.symm
  rw [hll] at e2
  simp only [ofArgs, run_seq, run_block, run_ops, run_skip, run_exit, run_ret, thenQ_normal, thenQ_exit, thenQ_ret, blockQ_normal, blockQ_exit, blockQ_ret, retQ_ret, retQ_normal, ops_nil, ops_none, got_some, ops_wT, ops_wTn, ops_wF, ops_wFn, ops_wU, dops_wT, dops_wTn, dops_wF, dops_wFn, dops_wU, run_condT, run_condF, alt2_int, altB_bool, altI_int, altBB_bool, v_min, v_max, v_not, v_neg, optEv_none, optEv_some, isSome'_none, isSome'_some, pExt0, pExt1, pExt2, Bool.false_and, Bool.true_and, Bool.not_true, Bool.not_false, cond_true, cond_false, dops_nil, dops_none, xval_call, v_mov, v_bin, v_len, v_ext, v_idxA, v_ld, v_st, v_app, v_appN, v_cvs, v_bs1, pBs1, v_slc, v_conv, v_fld, v_fldA, v_new, v_box, v_mks, v_copy, v_isnil, v_nilck, v_pick, ev, evs_nil, evs_cons, fr_get_cons, fr_put_nil, fr_put_cons, fr_put_some, fr_put_none, fr_keep_nil, fr_keep_cons, fr_has_nil, fr_has_cons, Option.bind_some, Option.map_some, xbin, ibin, xresult_eq, xress_nil, xress_tmp, resV, ex_some, if_true, if_false, ite_true, ite_false, reduceIte, reduceCtorEq, Nat.reduceEqDiff, Nat.reduceLT, Nat.reduceLeDiff, Int.reduceLT, Int.reduceLE, Nat.zero_add, Nat.reduceAdd, Bool.false_eq_true, decide_eq_true_eq, decide_eq_false_iff_not, true_implies, false_implies, and_true, true_and, e1, e2, bne_self_eq_false]
  refine eqs_l0 v u l l2 [] [] H _ _ _ (by simpa using hv) (by simpa using hu) rfl hm hb (by simp; omega) (by simp) (by simp) ?_
  intro H' x
  simp only [ofArgs, run_seq, run_block, run_ops, run_skip, run_exit, run_ret, thenQ_normal, thenQ_exit, thenQ_ret, blockQ_normal, blockQ_exit, blockQ_ret, retQ_ret, retQ_normal, ops_nil, ops_none, got_some, ops_wT, ops_wTn, ops_wF, ops_wFn, ops_wU, dops_wT, dops_wTn, dops_wF, dops_wFn, dops_wU, run_condT, run_condF, alt2_int, altB_bool, altI_int, altBB_bool, v_min, v_max, v_not, v_neg, optEv_none, optEv_some, isSome'_none, isSome'_some, pExt0, pExt1, pExt2, Bool.false_and, Bool.true_and, Bool.not_true, Bool.not_false, cond_true, cond_false, dops_nil, dops_none, xval_call, v_mov, v_bin, v_len, v_ext, v_idxA, v_ld, v_st, v_app, v_appN, v_cvs, v_bs1, pBs1, v_slc, v_conv, v_fld, v_fldA, v_new, v_box, v_mks, v_copy, v_isnil, v_nilck, v_pick, ev, evs_nil, evs_cons, fr_get_cons, fr_put_nil, fr_put_cons, fr_put_some, fr_put_none, fr_keep_nil, fr_keep_cons, fr_has_nil, fr_has_cons, Option.bind_some, Option.map_some, xbin, ibin, xresult_eq, xress_nil, xress_tmp, resV, ex_some, if_true, if_false, ite_true, ite_false, reduceIte, reduceCtorEq, Nat.reduceEqDiff, Nat.reduceLT, Nat.reduceLeDiff, Int.reduceLT, Int.reduceLE, Nat.zero_add, Nat.reduceAdd, Bool.false_eq_true, decide_eq_true_eq, decide_eq_false_iff_not, true_implies, false_implies, and_true, true_and]
  exact hq H' x
/-- as many lengths as changes -/
theorem gaps_count (q : List Bool) : (gaps q).1.length = q.count true := by
  refine snoc_ind (P := fun q => (gaps q).1.length = q.count true) (by simp [gaps]) (fun q b ih => ?_) q
  rw [gaps_snoc, List.count_append]
  cases b <;> simp [plc, ih]
theorem fmt_many (l : List SD) : 9 ≤ (gaps (fullI (itemsL (fmtP l)))).1.length := by
  rw [gaps_count]
  have e : itemsL (fmtP l) = byI gp ++ itemsL (l.flatMap ptS) := by simp [itemsL, fmtP, items]
  unfold fullI
  rw [e, isym_app, List.append_assoc, List.count_append]
  have : 9 ≤ (isym (byI gp) true).count true := by decide
  omega

set_option maxHeartbeats 4000000 in
theorem SectBack_ok (l : List Int) (cell0 : Int) (s1 : Value) (H : AH) (hs1 : Ints H s1 l) : Got (xc Try.prog tab 8 [s1, .int .i64 cell0] H) fun v H' => v = .bool true := by
  refine got_call (res := [.tmp 4]) rfl ?_
  generalize hT : ((.seq (.ops [⟨some 12, .mov (.tmp 1), none⟩, ⟨some 13, .call 14 [.tmp 12, .const (.int .i64 50)], none⟩, ⟨some 14, .bin .add (.const (.int .i64 2)) (.tmp 13), none⟩, ⟨some 1, .mov (.tmp 14), none⟩] [1, 5]) (.seq (.ops [⟨some 16, .mov (.tmp 5), none⟩, ⟨some 17, .mov (.tmp 1), none⟩, ⟨some 18, .call 43 [.const (.int .i64 1), .tmp 16, .tmp 17], none⟩, ⟨some 15, .mov (.tmp 18), none⟩, ⟨some 19, .ext (.tmp 15) 0, none⟩, ⟨some 20, .ext (.tmp 15) 1, none⟩, ⟨some 6, .mov (.tmp 19), none⟩, ⟨some 7, .mov (.tmp 20), none⟩] [1, 5, 6, 7]) (.seq (.ops [⟨some 22, .mov (.tmp 6), none⟩, ⟨some 23, .mov (.tmp 1), none⟩, ⟨some 24, .call 44 [.tmp 22, .tmp 23], none⟩, ⟨some 21, .mov (.tmp 24), none⟩, ⟨some 25, .ext (.tmp 21) 0, none⟩, ⟨some 26, .ext (.tmp 21) 1, none⟩, ⟨some 8, .mov (.tmp 25), none⟩, ⟨some 9, .mov (.tmp 26), none⟩] [5, 6, 7, 8, 9]) (.seq (.ops [⟨some 27, .mov (.tmp 7), none⟩, ⟨some 28, .bin .eql (.tmp 27) (.const (.int .i64 0)), none⟩, ⟨some 29, .mov (.tmp 28), none⟩, ⟨some 30, .mov (.tmp 9), some (29, true)⟩, ⟨some 31, .bin .eql (.tmp 30) (.const (.int .i64 0)), some (29, true)⟩, ⟨some 32, .pick (.tmp 29) (.tmp 31) (.const (.bool false)), none⟩, ⟨some 33, .mov (.tmp 32), none⟩, ⟨some 34, .mov (.tmp 5), some (33, true)⟩, ⟨some 35, .mov (.tmp 8), some (33, true)⟩, ⟨some 36, .call 45 [.tmp 34, .tmp 35], some (33, true)⟩, ⟨some 37, .pick (.tmp 33) (.tmp 36) (.const (.bool false)), none⟩, ⟨some 38, .mov (.tmp 37), none⟩, ⟨some 39, .mov (.tmp 6), some (38, true)⟩, ⟨some 40, .len (.tmp 39), some (38, true)⟩, ⟨some 41, .bin .gtr (.tmp 40) (.const (.int .i64 8)), some (38, true)⟩, ⟨some 42, .pick (.tmp 38) (.tmp 41) (.const (.bool false)), none⟩, ⟨some 4, .mov (.tmp 42), none⟩] [4]) .ret)))) : XCode) = T
  simp only [ofArgs, run_seq, run_block, run_ops, run_skip, run_exit, run_ret, thenQ_normal, thenQ_exit, thenQ_ret, blockQ_normal, blockQ_exit, blockQ_ret, retQ_ret, retQ_normal, ops_nil, ops_none, got_some, ops_wT, ops_wTn, ops_wF, ops_wFn, ops_wU, dops_wT, dops_wTn, dops_wF, dops_wFn, dops_wU, run_condT, run_condF, alt2_int, altB_bool, altI_int, altBB_bool, v_min, v_max, v_not, v_neg, optEv_none, optEv_some, isSome'_none, isSome'_some, pExt0, pExt1, pExt2, Bool.false_and, Bool.true_and, Bool.not_true, Bool.not_false, cond_true, cond_false, dops_nil, dops_none, xval_call, v_mov, v_bin, v_len, v_ext, v_idxA, v_ld, v_st, v_app, v_appN, v_cvs, v_bs1, pBs1, v_slc, v_conv, v_fld, v_fldA, v_new, v_box, v_mks, v_copy, v_isnil, v_nilck, v_pick, ev, evs_nil, evs_cons, fr_get_cons, fr_put_nil, fr_put_cons, fr_put_some, fr_put_none, fr_keep_nil, fr_keep_cons, fr_has_nil, fr_has_cons, Option.bind_some, Option.map_some, xbin, ibin, xresult_eq, xress_nil, xress_tmp, resV, ex_some, if_true, if_false, ite_true, ite_false, reduceIte, reduceCtorEq, Nat.reduceEqDiff, Nat.reduceLT, Nat.reduceLeDiff, Int.reduceLT, Int.reduceLE, Nat.zero_add, Nat.reduceAdd, Bool.false_eq_true, decide_eq_true_eq, decide_eq_false_iff_not, true_implies, false_implies, and_true, true_and]
  refine sectors_ok l s1 H _ hs1 ?_
  intro va lo H1 o1 ok1 l1 x1
  have hc0 := Int.emod_nonneg cell0 (by omega : (50 : Int) ≠ 0)
  have hc1 := Int.emod_lt_of_pos cell0 (by omega : (0 : Int) < 50)
  have q1 := below_xc cell0 50 H1 (by omega) (by omega)
  have w1 := wrI (2 + cell0 % 50) (by omega) (by omega)
  subst hT
  generalize hT : ((.seq (.ops [⟨some 22, .mov (.tmp 6), none⟩, ⟨some 23, .mov (.tmp 1), none⟩, ⟨some 24, .call 44 [.tmp 22, .tmp 23], none⟩, ⟨some 21, .mov (.tmp 24), none⟩, ⟨some 25, .ext (.tmp 21) 0, none⟩, ⟨some 26, .ext (.tmp 21) 1, none⟩, ⟨some 8, .mov (.tmp 25), none⟩, ⟨some 9, .mov (.tmp 26), none⟩] [5, 6, 7, 8, 9]) (.seq (.ops [⟨some 27, .mov (.tmp 7), none⟩, ⟨some 28, .bin .eql (.tmp 27) (.const (.int .i64 0)), none⟩, ⟨some 29, .mov (.tmp 28), none⟩, ⟨some 30, .mov (.tmp 9), some (29, true)⟩, ⟨some 31, .bin .eql (.tmp 30) (.const (.int .i64 0)), some (29, true)⟩, ⟨some 32, .pick (.tmp 29) (.tmp 31) (.const (.bool false)), none⟩, ⟨some 33, .mov (.tmp 32), none⟩, ⟨some 34, .mov (.tmp 5), some (33, true)⟩, ⟨some 35, .mov (.tmp 8), some (33, true)⟩, ⟨some 36, .call 45 [.tmp 34, .tmp 35], some (33, true)⟩, ⟨some 37, .pick (.tmp 33) (.tmp 36) (.const (.bool false)), none⟩, ⟨some 38, .mov (.tmp 37), none⟩, ⟨some 39, .mov (.tmp 6), some (38, true)⟩, ⟨some 40, .len (.tmp 39), some (38, true)⟩, ⟨some 41, .bin .gtr (.tmp 40) (.const (.int .i64 8)), some (38, true)⟩, ⟨some 42, .pick (.tmp 38) (.tmp 41) (.const (.bool false)), none⟩, ⟨some 4, .mov (.tmp 42), none⟩] [4]) .ret)) : XCode) = T
  simp only [ofArgs, run_seq, run_block, run_ops, run_skip, run_exit, run_ret, thenQ_normal, thenQ_exit, thenQ_ret, blockQ_normal, blockQ_exit, blockQ_ret, retQ_ret, retQ_normal, ops_nil, ops_none, got_some, ops_wT, ops_wTn, ops_wF, ops_wFn, ops_wU, dops_wT, dops_wTn, dops_wF, dops_wFn, dops_wU, run_condT, run_condF, alt2_int, altB_bool, altI_int, altBB_bool, v_min, v_max, v_not, v_neg, optEv_none, optEv_some, isSome'_none, isSome'_some, pExt0, pExt1, pExt2, Bool.false_and, Bool.true_and, Bool.not_true, Bool.not_false, cond_true, cond_false, dops_nil, dops_none, xval_call, v_mov, v_bin, v_len, v_ext, v_idxA, v_ld, v_st, v_app, v_appN, v_cvs, v_bs1, pBs1, v_slc, v_conv, v_fld, v_fldA, v_new, v_box, v_mks, v_copy, v_isnil, v_nilck, v_pick, ev, evs_nil, evs_cons, fr_get_cons, fr_put_nil, fr_put_cons, fr_put_some, fr_put_none, fr_keep_nil, fr_keep_cons, fr_has_nil, fr_has_cons, Option.bind_some, Option.map_some, xbin, ibin, xresult_eq, xress_nil, xress_tmp, resV, ex_some, if_true, if_false, ite_true, ite_false, reduceIte, reduceCtorEq, Nat.reduceEqDiff, Nat.reduceLT, Nat.reduceLeDiff, Int.reduceLT, Int.reduceLE, Nat.zero_add, Nat.reduceAdd, Bool.false_eq_true, decide_eq_true_eq, decide_eq_false_iff_not, true_implies, false_implies, and_true, true_and, q1, w1]
  have h2 : 2 ≤ 2 + cell0 % 50 := by omega
  have h3 : 2 + cell0 % 50 ≤ 1000 := by omega
  generalize 2 + cell0 % 50 = cell at h2 h3
  refine format_ok 1 (by decide) (by decide) lo va cell H1 _ o1.sds ok1 (by omega) h2 h3 ?_
  intro vt H2 ot x2
  subst hT
  generalize hT : ((.seq (.ops [⟨some 27, .mov (.tmp 7), none⟩, ⟨some 28, .bin .eql (.tmp 27) (.const (.int .i64 0)), none⟩, ⟨some 29, .mov (.tmp 28), none⟩, ⟨some 30, .mov (.tmp 9), some (29, true)⟩, ⟨some 31, .bin .eql (.tmp 30) (.const (.int .i64 0)), some (29, true)⟩, ⟨some 32, .pick (.tmp 29) (.tmp 31) (.const (.bool false)), none⟩, ⟨some 33, .mov (.tmp 32), none⟩, ⟨some 34, .mov (.tmp 5), some (33, true)⟩, ⟨some 35, .mov (.tmp 8), some (33, true)⟩, ⟨some 36, .call 45 [.tmp 34, .tmp 35], some (33, true)⟩, ⟨some 37, .pick (.tmp 33) (.tmp 36) (.const (.bool false)), none⟩, ⟨some 38, .mov (.tmp 37), none⟩, ⟨some 39, .mov (.tmp 6), some (38, true)⟩, ⟨some 40, .len (.tmp 39), some (38, true)⟩, ⟨some 41, .bin .gtr (.tmp 40) (.const (.int .i64 8)), some (38, true)⟩, ⟨some 42, .pick (.tmp 38) (.tmp 41) (.const (.bool false)), none⟩, ⟨some 4, .mov (.tmp 42), none⟩] [4]) .ret) : XCode) = T
  simp only [ofArgs, run_seq, run_block, run_ops, run_skip, run_exit, run_ret, thenQ_normal, thenQ_exit, thenQ_ret, blockQ_normal, blockQ_exit, blockQ_ret, retQ_ret, retQ_normal, ops_nil, ops_none, got_some, ops_wT, ops_wTn, ops_wF, ops_wFn, ops_wU, dops_wT, dops_wTn, dops_wF, dops_wFn, dops_wU, run_condT, run_condF, alt2_int, altB_bool, altI_int, altBB_bool, v_min, v_max, v_not, v_neg, optEv_none, optEv_some, isSome'_none, isSome'_some, pExt0, pExt1, pExt2, Bool.false_and, Bool.true_and, Bool.not_true, Bool.not_false, cond_true, cond_false, dops_nil, dops_none, xval_call, v_mov, v_bin, v_len, v_ext, v_idxA, v_ld, v_st, v_app, v_appN, v_cvs, v_bs1, pBs1, v_slc, v_conv, v_fld, v_fldA, v_new, v_box, v_mks, v_copy, v_isnil, v_nilck, v_pick, ev, evs_nil, evs_cons, fr_get_cons, fr_put_nil, fr_put_cons, fr_put_some, fr_put_none, fr_keep_nil, fr_keep_cons, fr_has_nil, fr_has_cons, Option.bind_some, Option.map_some, xbin, ibin, xresult_eq, xress_nil, xress_tmp, resV, ex_some, if_true, if_false, ite_true, ite_false, reduceIte, reduceCtorEq, Nat.reduceEqDiff, Nat.reduceLT, Nat.reduceLeDiff, Int.reduceLT, Int.reduceLE, Nat.zero_add, Nat.reduceAdd, Bool.false_eq_true, decide_eq_true_eq, decide_eq_false_iff_not, true_implies, false_implies, and_true, true_and]
  refine scan_ok lo ok1 (by omega) vt cell H2 _ ot.ints h2 h3 ?_
  intro vb l2 H3 o3 hm3 x3
  subst hT
  have x23 := x2.trans x3
  simp only [ofArgs, run_seq, run_block, run_ops, run_skip, run_exit, run_ret, thenQ_normal, thenQ_exit, thenQ_ret, blockQ_normal, blockQ_exit, blockQ_ret, retQ_ret, retQ_normal, ops_nil, ops_none, got_some, ops_wT, ops_wTn, ops_wF, ops_wFn, ops_wU, dops_wT, dops_wTn, dops_wF, dops_wFn, dops_wU, run_condT, run_condF, alt2_int, altB_bool, altI_int, altBB_bool, v_min, v_max, v_not, v_neg, optEv_none, optEv_some, isSome'_none, isSome'_some, pExt0, pExt1, pExt2, Bool.false_and, Bool.true_and, Bool.not_true, Bool.not_false, cond_true, cond_false, dops_nil, dops_none, xval_call, v_mov, v_bin, v_len, v_ext, v_idxA, v_ld, v_st, v_app, v_appN, v_cvs, v_bs1, pBs1, v_slc, v_conv, v_fld, v_fldA, v_new, v_box, v_mks, v_copy, v_isnil, v_nilck, v_pick, ev, evs_nil, evs_cons, fr_get_cons, fr_put_nil, fr_put_cons, fr_put_some, fr_put_none, fr_keep_nil, fr_keep_cons, fr_has_nil, fr_has_cons, Option.bind_some, Option.map_some, xbin, ibin, xresult_eq, xress_nil, xress_tmp, resV, ex_some, if_true, if_false, ite_true, ite_false, reduceIte, reduceCtorEq, Nat.reduceEqDiff, Nat.reduceLT, Nat.reduceLeDiff, Int.reduceLT, Int.reduceLE, Nat.zero_add, Nat.reduceAdd, Bool.false_eq_true, decide_eq_true_eq, decide_eq_false_iff_not, true_implies, false_implies, and_true, true_and, beq_self_eq_true]
  refine same_ok va vb lo l2 H3 _ (o1.sds.ext x23) o3.sds hm3.symm (fun p hp => by have := (ok1 p hp).2.2.2.2.1; omega) (by omega) ?_
  intro H4 x4
  have hlen := ints_len (Sl.ext (x3.trans x4) ot.ints : Ints H4 vt _)
  have hpl : (pul cell (gaps (fullI (itemsL (fmtP lo)))).1).length = (gaps (fullI (itemsL (fmtP lo)))).1.length := by simp [pul]
  have hmany := fmt_many lo
  have c8 : (((pul cell (gaps (fullI (itemsL (fmtP lo)))).1).length : Nat) : Int) > 8 := by omega
  simp only [ofArgs, run_seq, run_block, run_ops, run_skip, run_exit, run_ret, thenQ_normal, thenQ_exit, thenQ_ret, blockQ_normal, blockQ_exit, blockQ_ret, retQ_ret, retQ_normal, ops_nil, ops_none, got_some, ops_wT, ops_wTn, ops_wF, ops_wFn, ops_wU, dops_wT, dops_wTn, dops_wF, dops_wFn, dops_wU, run_condT, run_condF, alt2_int, altB_bool, altI_int, altBB_bool, v_min, v_max, v_not, v_neg, optEv_none, optEv_some, isSome'_none, isSome'_some, pExt0, pExt1, pExt2, Bool.false_and, Bool.true_and, Bool.not_true, Bool.not_false, cond_true, cond_false, dops_nil, dops_none, xval_call, v_mov, v_bin, v_len, v_ext, v_idxA, v_ld, v_st, v_app, v_appN, v_cvs, v_bs1, pBs1, v_slc, v_conv, v_fld, v_fldA, v_new, v_box, v_mks, v_copy, v_isnil, v_nilck, v_pick, ev, evs_nil, evs_cons, fr_get_cons, fr_put_nil, fr_put_cons, fr_put_some, fr_put_none, fr_keep_nil, fr_keep_cons, fr_has_nil, fr_has_cons, Option.bind_some, Option.map_some, xbin, ibin, xresult_eq, xress_nil, xress_tmp, resV, ex_some, if_true, if_false, ite_true, ite_false, reduceIte, reduceCtorEq, Nat.reduceEqDiff, Nat.reduceLT, Nat.reduceLeDiff, Int.reduceLT, Int.reduceLE, Nat.zero_add, Nat.reduceAdd, Bool.false_eq_true, decide_eq_true_eq, decide_eq_false_iff_not, true_implies, false_implies, and_true, true_and, hlen, c8, decide_true]
end Go.Proofs.Ytejedmocjdcdgaa.D
