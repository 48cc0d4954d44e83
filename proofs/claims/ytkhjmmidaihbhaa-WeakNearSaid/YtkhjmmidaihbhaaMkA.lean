/- What functions that the law reaches compute, on a heap of the run's own: the conditions stand in each theorem. -/
import Derived.Test.YtkhjmmidaihbhaaFxA
set_option linter.unusedSimpArgs false
set_option linter.unusedVariables false
namespace Go.Proofs.Ytkhjmmidaihbhaa.D
open Go Go.Det

theorem pNil_ptr (a : Addr) (H : AH) : pNil (.pointer (some a)) H = some (.pointer (some a), H) := rfl
theorem pFldA_ptr (off B o : Nat) (H : AH) : pFldA off (.pointer (some ⟨B, o, none⟩)) H = some (.pointer (some ⟨B, o + off, none⟩), H) := rfl
theorem pLd_box {H : AH} {B : Nat} {v : Value} {sz : Nat} {opn ro : Bool} (h : H.get B = some ⟨[v], sz, opn, ro⟩) : pLd none (.pointer (some ⟨B, 0, none⟩)) H = some (v, H) := by
  unfold pLd
  simp only [h, Option.bind_some, partV]
  rfl
theorem pSt_box {H : AH} {B : Nat} {v u : Value} {sz : Nat} {opn : Bool} (h : H.get B = some ⟨[v], sz, opn, false⟩) (h1 : one u = true) (h2 : vcells u = [u]) : pSt 1 (.pointer (some ⟨B, 0, none⟩)) u H = some (undef, H.set B ⟨[u], sz, opn, false⟩) := by
  unfold pSt
  simp only [h, Option.bind_some, h2, List.length_singleton, List.all_cons, List.all_nil, h1]
  rfl

theorem Sl.set {H : AH} {B sz n : Nat} {s : Value} {cs : List Value} {blk : Blk} (h : Sl H sz s n cs) (hB : ¬ inB s B) : Sl (H.set B blk) sz s n cs := by
  have hg : ∀ b, inB s b → (H.set B blk).get b = H.get b := by
    intro b hb
    rw [AH.get_set, if_neg (fun e : b = B => hB (by rw [← e]; exact hb))]
  rcases h with h | ⟨C, o, h1, h2, h3, h4⟩ | ⟨C, o, c, b, h1, h2, h3, h4⟩
  · exact .inl h
  · exact .inr (.inl ⟨C, o, h1, h2, (hg C ⟨_, _, _, h1⟩).trans h3, h4⟩)
  · exact .inr (.inr ⟨C, o, c, b, h1, h2, (hg C ⟨_, _, _, h1⟩).trans h3, h4⟩)

/-- a stream of numbers: a box with what is left -/
structure Strm (n0 : Nat) (H : AH) (B : Nat) (v : Value) (l : List Int) : Prop where
  nb : n0 ≤ B
  lt : B < H.n
  box : H.get B = some ⟨[v], 1, false, false⟩
  ints : Ints H v l
  out : ∀ b, inB v b → b < n0

theorem sl_slice {H : AH} {sz n : Nat} {s : Value} {cs : List Value} (h : Sl H sz s n cs) : one s = true ∧ vcells s = [s] := by
  rcases h with ⟨rfl, _⟩ | ⟨B, o, rfl, _⟩ | ⟨B, o, c, blk, rfl, _⟩ <;> exact ⟨rfl, rfl⟩

theorem next_ok (n0 B : Nat) (v : Value) (l : List Int) (n : Int) (hn : 0 < n) (hn' : n < 1000000) (H : AH) (Q : Value → AH → Prop) (hs : Strm n0 H B v l)
    (hq : ∀ v' H', H'.n = H.n → (∀ b, b ≠ B → H'.get b = H.get b) → Strm n0 H' B v' l.tail → Q (.int .i64 (l.headD 0 % n)) H') : Got (xc Try.prog tab 41 [.pointer (some ⟨B, 0, none⟩), .int .i64 n] H) Q := by
  refine got_call (res := [.tmp 4]) rfl ?_
  have c1 : ¬ n < 1 := by omega
  have e1 := pLd_box hs.box
  have e2 := ints_len hs.ints
  cases l with
  | nil =>
    have := hq v H rfl (fun _ _ => rfl) hs
    simp only [ofArgs, run_seq, run_block, run_ops, run_skip, run_exit, run_ret, thenQ_normal, thenQ_exit, thenQ_ret, blockQ_normal, blockQ_exit, blockQ_ret, retQ_ret, retQ_normal, ops_nil, ops_none, got_some, ops_wT, ops_wTn, ops_wF, ops_wFn, ops_wU, dops_wT, dops_wTn, dops_wF, dops_wFn, dops_wU, run_condT, run_condF, alt2_int, altB_bool, altI_int, altBB_bool, v_min, v_max, v_not, v_neg, optEv_none, optEv_some, isSome'_none, isSome'_some, pExt0, pExt1, pExt2, Bool.false_and, Bool.true_and, Bool.not_true, Bool.not_false, cond_true, cond_false, dops_nil, dops_none, xval_call, v_mov, v_bin, v_len, v_ext, v_idxA, v_ld, v_st, v_app, v_appN, v_cvs, v_bs1, pBs1, v_slc, v_conv, v_fld, v_fldA, v_new, v_box, v_mks, v_copy, v_isnil, v_nilck, v_pick, ev, evs_nil, evs_cons, fr_get_cons, fr_put_nil, fr_put_cons, fr_put_some, fr_put_none, fr_keep_nil, fr_keep_cons, fr_has_nil, fr_has_cons, Option.bind_some, Option.map_some, xbin, ibin, xresult_eq, xress_nil, xress_tmp, resV, ex_some, if_true, if_false, ite_true, ite_false, reduceIte, reduceCtorEq, Nat.reduceEqDiff, Nat.reduceLT, Nat.reduceLeDiff, Int.reduceLT, Int.reduceLE, Nat.zero_add, Nat.reduceAdd, Bool.false_eq_true, decide_eq_true_eq, decide_eq_false_iff_not, true_implies, false_implies, and_true, true_and, pNil_ptr, pFldA_ptr, Nat.add_zero, e1, e2, c1, decide_false, List.length_nil, Int.ofNat_zero, Int.natCast_zero, beq_self_eq_true]
    simpa using this
  | cons x r =>
    have c2 : (((x :: r).length : Int) == 0) = false := by simp; omega
    have e3 := ints_idx hs.ints 0 0 rfl (by simp)
    have e4 := ints_ld hs.ints 0 x rfl
    have e5 := fun H => below_xc x n H hn hn'
    obtain ⟨s', k1, k2, k3, _⟩ := xslc_ok (lo := some (.int .i64 1)) (hi := none) (i := 1) (h := (x :: r).length) hs.ints rfl rfl (by simp) (Nat.le_refl _)
    have k2' : Ints H s' r := by
      unfold Ints
      have e : (r.map (Value.int .i64)).take r.length = r.map (Value.int .i64) := List.take_of_length_le (by simp)
      simpa [e] using k2
    obtain ⟨o1, o2⟩ := sl_slice k2'
    have e6 := pSt_box hs.box o1 o2
    simp only [ofArgs, run_seq, run_block, run_ops, run_skip, run_exit, run_ret, thenQ_normal, thenQ_exit, thenQ_ret, blockQ_normal, blockQ_exit, blockQ_ret, retQ_ret, retQ_normal, ops_nil, ops_none, got_some, ops_wT, ops_wTn, ops_wF, ops_wFn, ops_wU, dops_wT, dops_wTn, dops_wF, dops_wFn, dops_wU, run_condT, run_condF, alt2_int, altB_bool, altI_int, altBB_bool, v_min, v_max, v_not, v_neg, optEv_none, optEv_some, isSome'_none, isSome'_some, pExt0, pExt1, pExt2, Bool.false_and, Bool.true_and, Bool.not_true, Bool.not_false, cond_true, cond_false, dops_nil, dops_none, xval_call, v_mov, v_bin, v_len, v_ext, v_idxA, v_ld, v_st, v_app, v_appN, v_cvs, v_bs1, pBs1, v_slc, v_conv, v_fld, v_fldA, v_new, v_box, v_mks, v_copy, v_isnil, v_nilck, v_pick, ev, evs_nil, evs_cons, fr_get_cons, fr_put_nil, fr_put_cons, fr_put_some, fr_put_none, fr_keep_nil, fr_keep_cons, fr_has_nil, fr_has_cons, Option.bind_some, Option.map_some, xbin, ibin, xresult_eq, xress_nil, xress_tmp, resV, ex_some, if_true, if_false, ite_true, ite_false, reduceIte, reduceCtorEq, Nat.reduceEqDiff, Nat.reduceLT, Nat.reduceLeDiff, Int.reduceLT, Int.reduceLE, Nat.zero_add, Nat.reduceAdd, Bool.false_eq_true, decide_eq_true_eq, decide_eq_false_iff_not, true_implies, false_implies, and_true, true_and, pNil_ptr, pFldA_ptr, Nat.add_zero, e1, e2, e3, e4, e5, c1, c2, k1, e6, decide_false]
    refine hq s' (H.set B ⟨[s'], 1, false, false⟩) rfl (fun b hb => by rw [AH.get_set, if_neg hb]) ⟨hs.nb, hs.lt, by rw [AH.get_set, if_pos rfl], ?_, fun b hb => hs.out b ((k3 b).1 hb)⟩
    refine Sl.set k2' (fun hb => ?_)
    have := hs.out B ((k3 B).1 hb)
    have := hs.nb
    omega

/-- slices of bytes -/
def Byts (H : AH) (v : Value) (l : List Int) : Prop := Sl H 1 v l.length (l.map (.int .u8))
def OwnB (n0 : Nat) (H : AH) (v : Value) (l : List Int) : Prop := Own n0 1 H v l.length (l.map (.int .u8))
/-- numbers that are bytes -/
def B8 (l : List Int) : Prop := ∀ b ∈ l, 0 ≤ b ∧ b < 256
/-- the bytes that a stream gives -/
def byts : Nat → List Int → List Int
  | 0, _ => []
  | k + 1, l => (l.headD 0 % 256) :: byts k l.tail
theorem byts_len (k : Nat) : ∀ l, (byts k l).length = k := by
  induction k with
  | zero => intro l; rfl
  | succ k ih => intro l; simp [byts, ih]
theorem byts_b8 (k : Nat) : ∀ l, B8 (byts k l) := by
  induction k with
  | zero => intro l b hb; simp [byts] at hb
  | succ k ih =>
    intro l b hb
    simp only [byts, List.mem_cons] at hb
    rcases hb with rfl | hb
    · exact ⟨Int.emod_nonneg _ (by omega), Int.emod_lt_of_pos _ (by omega)⟩
    · exact ih _ b hb
theorem wrU8 (n : Int) (h0 : 0 ≤ n) (h1 : n < 256) : IntKind.u8.wrap n = n := by
  show (if (false && decide (n % (2 ^ 8 : Int) ≥ (2 ^ 7 : Int))) = true then n % (2 ^ 8 : Int) - (2 ^ 8 : Int) else n % (2 ^ 8 : Int)) = n
  rw [show (2 : Int) ^ 8 = 256 from rfl]
  simp only [Bool.false_and, Bool.false_eq_true, if_false]
  omega

theorem Own.set {H : AH} {n0 sz n : Nat} {s : Value} {cs : List Value} {H' : AH} (h : Own n0 sz H s n cs) (hn : H'.n = H.n) (hg : ∀ b, inB s b → H'.get b = H.get b) : Own n0 sz H' s n cs := by
  obtain ⟨h1, h2⟩ := h
  refine ⟨?_, fun C o l c e => ?_⟩
  · rcases h1 with h | ⟨C, o, h1, h2, h3, h4⟩ | ⟨C, o, c, b, h1, h2, h3, h4⟩
    · exact .inl h
    · exact .inr (.inl ⟨C, o, h1, by omega, (hg C ⟨_, _, _, h1⟩).trans h3, h4⟩)
    · exact .inr (.inr ⟨C, o, c, b, h1, by omega, (hg C ⟨_, _, _, h1⟩).trans h3, h4⟩)
  · obtain ⟨a, blk, b, c⟩ := h2 C o l c e
    exact ⟨a, blk, (hg C ⟨_, _, _, e⟩).trans b, c⟩

theorem pMks_ok (z : Value) (k : Nat) (hk : k ≤ 140737488355328) (kd : IntKind) (H : AH) (m : Int) (hm : m = (k : Int)) : pMks 1 1 [z] (.int kd m) (.int kd m) H = some (.slice (some ⟨H.n, 0, none⟩) k k, H.push ⟨rep k [z], 1, false, false⟩) := by
  subst hm
  show (bif Nat.ble k k && Nat.ble (k * 1) 140737488355328 && Nat.ble k 140737488355328 then some (Value.slice (some ⟨H.n, 0, none⟩) k k, H.push ⟨rep k [z], 1, false, false⟩) else none) = _
  rw [ble_of (Nat.le_refl k), ble_of (by omega : k * 1 ≤ 140737488355328), ble_of hk]
  rfl
theorem rep_one (z : Value) (k : Nat) : rep k [z] = List.replicate k z := by
  induction k with
  | zero => rfl
  | succ k ih => simp [rep, ih, List.replicate_succ]

theorem bytes_l0 (n0 B : Nat) (s : Value) (r : Nat) : ∀ (pre : List Int) (v : Value) (l : List Int) (H : AH) (i N : Int) (Q : XExit → Fr → AH → Prop), Strm n0 H B v l → OwnB n0 H s (pre ++ List.replicate r 0) → ¬ inB s B → n0 ≤ H.n → pre.length + r ≤ 1000000 → i = (pre.length : Int) → N = ((pre.length + r : Nat) : Int) →
    (∀ H', OwnB n0 H' s (pre ++ byts r l) → Keep n0 H H' → Q (.exit 0) [(5, .pointer (some ⟨B, 0, none⟩)), (6, s), (15, .int .i64 N), (16, .int .i64 N), (17, .bool false)] H') →
    Run Try.prog tab (.loop xbakemake_Bytes_l0) [(5, .pointer (some ⟨B, 0, none⟩)), (6, s), (15, .int .i64 N), (16, .int .i64 i)] H Q := by
  induction r with
  | zero =>
    intro pre v l H i N Q hs ho hsB hn hl hi hN hq
    rw [run_loop]
    generalize hL : XCode.loop xbakemake_Bytes_l0 = L
    have hiN : i = N := by omega
    subst hiN
    have hf : ¬ i < i := by omega
    simp only [xbakemake_Bytes_l0, ofArgs, run_seq, run_block, run_ops, run_skip, run_exit, run_ret, thenQ_normal, thenQ_exit, thenQ_ret, blockQ_normal, blockQ_exit, blockQ_ret, retQ_ret, retQ_normal, ops_nil, ops_none, got_some, ops_wT, ops_wTn, ops_wF, ops_wFn, ops_wU, dops_wT, dops_wTn, dops_wF, dops_wFn, dops_wU, run_condT, run_condF, alt2_int, altB_bool, altI_int, altBB_bool, v_min, v_max, v_not, v_neg, optEv_none, optEv_some, isSome'_none, isSome'_some, pExt0, pExt1, pExt2, Bool.false_and, Bool.true_and, Bool.not_true, Bool.not_false, cond_true, cond_false, dops_nil, dops_none, xval_call, v_mov, v_bin, v_len, v_ext, v_idxA, v_ld, v_st, v_app, v_appN, v_cvs, v_bs1, pBs1, v_slc, v_conv, v_fld, v_fldA, v_new, v_box, v_mks, v_copy, v_isnil, v_nilck, v_pick, ev, evs_nil, evs_cons, fr_get_cons, fr_put_nil, fr_put_cons, fr_put_some, fr_put_none, fr_keep_nil, fr_keep_cons, fr_has_nil, fr_has_cons, Option.bind_some, Option.map_some, xbin, ibin, xresult_eq, xress_nil, xress_tmp, resV, ex_some, if_true, if_false, ite_true, ite_false, reduceIte, reduceCtorEq, Nat.reduceEqDiff, Nat.reduceLT, Nat.reduceLeDiff, Int.reduceLT, Int.reduceLE, Nat.zero_add, Nat.reduceAdd, Bool.false_eq_true, decide_eq_true_eq, decide_eq_false_iff_not, true_implies, false_implies, and_true, true_and, hf, decide_false]
    have := hq H (by simpa [byts] using ho) (.refl _ _)
    simpa using this
  | succ r ih =>
    intro pre v l H i N Q hs ho hsB hn hl hi hN hq
    rw [run_loop]
    generalize hL : XCode.loop xbakemake_Bytes_l0 = L
    have hlt : i < N := by omega
    have e4 := wrI (i + 1) (by omega) (by omega)
    have h0 : (0 : Int) ≤ l.headD 0 % 256 := Int.emod_nonneg _ (by omega)
    have h3 : l.headD 0 % 256 < 256 := Int.emod_lt_of_pos _ (by omega)
    have e3 := wrU8 (l.headD 0 % 256) h0 h3
    simp only [xbakemake_Bytes_l0, ofArgs, run_seq, run_block, run_ops, run_skip, run_exit, run_ret, thenQ_normal, thenQ_exit, thenQ_ret, blockQ_normal, blockQ_exit, blockQ_ret, retQ_ret, retQ_normal, ops_nil, ops_none, got_some, ops_wT, ops_wTn, ops_wF, ops_wFn, ops_wU, dops_wT, dops_wTn, dops_wF, dops_wFn, dops_wU, run_condT, run_condF, alt2_int, altB_bool, altI_int, altBB_bool, v_min, v_max, v_not, v_neg, optEv_none, optEv_some, isSome'_none, isSome'_some, pExt0, pExt1, pExt2, Bool.false_and, Bool.true_and, Bool.not_true, Bool.not_false, cond_true, cond_false, dops_nil, dops_none, xval_call, v_mov, v_bin, v_len, v_ext, v_idxA, v_ld, v_st, v_app, v_appN, v_cvs, v_bs1, pBs1, v_slc, v_conv, v_fld, v_fldA, v_new, v_box, v_mks, v_copy, v_isnil, v_nilck, v_pick, ev, evs_nil, evs_cons, fr_get_cons, fr_put_nil, fr_put_cons, fr_put_some, fr_put_none, fr_keep_nil, fr_keep_cons, fr_has_nil, fr_has_cons, Option.bind_some, Option.map_some, xbin, ibin, xresult_eq, xress_nil, xress_tmp, resV, ex_some, if_true, if_false, ite_true, ite_false, reduceIte, reduceCtorEq, Nat.reduceEqDiff, Nat.reduceLT, Nat.reduceLeDiff, Int.reduceLT, Int.reduceLE, Nat.zero_add, Nat.reduceAdd, Bool.false_eq_true, decide_eq_true_eq, decide_eq_false_iff_not, true_implies, false_implies, and_true, true_and, hlt, decide_true, e4]
    refine next_ok n0 B v l 256 (by omega) (by omega) H _ hs ?_
    intro v' H' hn' hg hs'
    have ho' : OwnB n0 H' s (pre ++ List.replicate (r + 1) 0) := Own.set ho hn' (fun b hb => hg b (fun e => hsB (e ▸ hb)))
    have e1 := pIdx_one ho'.1 .i64 i pre.length hi (by simp)
    simp only [ofArgs, run_seq, run_block, run_ops, run_skip, run_exit, run_ret, thenQ_normal, thenQ_exit, thenQ_ret, blockQ_normal, blockQ_exit, blockQ_ret, retQ_ret, retQ_normal, ops_nil, ops_none, got_some, ops_wT, ops_wTn, ops_wF, ops_wFn, ops_wU, dops_wT, dops_wTn, dops_wF, dops_wFn, dops_wU, run_condT, run_condF, alt2_int, altB_bool, altI_int, altBB_bool, v_min, v_max, v_not, v_neg, optEv_none, optEv_some, isSome'_none, isSome'_some, pExt0, pExt1, pExt2, Bool.false_and, Bool.true_and, Bool.not_true, Bool.not_false, cond_true, cond_false, dops_nil, dops_none, xval_call, v_mov, v_bin, v_len, v_ext, v_idxA, v_ld, v_st, v_app, v_appN, v_cvs, v_bs1, pBs1, v_slc, v_conv, v_fld, v_fldA, v_new, v_box, v_mks, v_copy, v_isnil, v_nilck, v_pick, ev, evs_nil, evs_cons, fr_get_cons, fr_put_nil, fr_put_cons, fr_put_some, fr_put_none, fr_keep_nil, fr_keep_cons, fr_has_nil, fr_has_cons, Option.bind_some, Option.map_some, xbin, ibin, xresult_eq, xress_nil, xress_tmp, resV, ex_some, if_true, if_false, ite_true, ite_false, reduceIte, reduceCtorEq, Nat.reduceEqDiff, Nat.reduceLT, Nat.reduceLeDiff, Int.reduceLT, Int.reduceLE, Nat.zero_add, Nat.reduceAdd, Bool.false_eq_true, decide_eq_true_eq, decide_eq_false_iff_not, true_implies, false_implies, and_true, true_and, pConv, e3, e1]
    refine pSt_own ho' (by simp) rfl rfl ?_
    intro H2 ho2 hs2
    subst hL
    have hk2 := hs2.keep ho' (by omega)
    have hstr : Strm n0 H2 B v' l.tail := by
      have hb2 : H2.get B = H'.get B := hs2.get B hs'.lt hsB
      exact ⟨hs'.nb, Nat.lt_of_lt_of_le hs'.lt hs2.n, hb2.trans hs'.box, Ints.keep hs'.ints hk2 hs'.out, hs'.out⟩
    have el : pre ++ [l.headD 0 % 256] ++ List.replicate r 0 = pre ++ (l.headD 0 % 256) :: List.replicate r 0 := by simp
    have ho3 : OwnB n0 H2 s (pre ++ [l.headD 0 % 256] ++ List.replicate r 0) := by
      unfold OwnB
      have e5 : (pre ++ [l.headD 0 % 256] ++ List.replicate r 0).length = (pre ++ List.replicate (r + 1) 0).length := by simp <;> omega
      have e6 : (pre ++ [l.headD 0 % 256] ++ List.replicate r 0).map (Value.int .u8) = ((pre ++ List.replicate (r + 1) 0).map (Value.int .u8)).set pre.length (.int .u8 (l.headD 0 % 256)) := by
        simp [List.replicate_succ]
      rw [e5, e6]; exact ho2
    refine ih (pre ++ [l.headD 0 % 256]) v' l.tail H2 (i + 1) N Q hstr ho3 hsB (by have := hs2.n; omega) (by simp <;> omega) (by simp <;> omega) (by simp <;> omega) ?_
    intro H3 o3 k3
    refine hq H3 (by simpa [byts] using o3) ?_
    have k1 : Keep n0 H H' := ⟨by omega, fun b hb => hg b (by have := hs.nb; omega)⟩
    exact k1.trans (hk2.trans k3)

def pMk1 (v : Value) (H : AH) : Option (Value × AH) :=
  match vcells v with
  | [u] => bif one u then some (.agg [u].toArray, H) else none
  | _ => none
theorem v_mk1 {P : Program} {T : XTab} (fr : Fr) (H : AH) (dd : Option Nat) (x : Operand) (z : Value) : xval P (xc P T) ⟨dd, .build [z] [(0, 1, x)], none⟩ fr H = (ev fr x).bind fun v => pMk1 v H := by
  rw [xval_op dd _ fr H rfl, e_build]
  rcases hx : ev fr x with _ | v
  · simp [xfill, hx]
  · simp only [Option.bind_some, pMk1, xfill, hx]
    rcases vcells v with _ | ⟨u, _ | ⟨u2, r⟩⟩
    · rfl
    · cases h : one u
      · simp [h]
      · simp [h, splice, show Nat.ble 1 1 = true from rfl]
    · have hb : (u :: u2 :: r).length.beq 1 = false := by rw [Tr.beq_eq]; simp
      simp only [hb, Bool.false_and, cond_false]
      rfl
theorem pMk1_slice {v : Value} (H : AH) (h1 : one v = true) (h2 : vcells v = [v]) : pMk1 v H = some (.agg [v].toArray, H) := by
  unfold pMk1
  rw [h2]
  simp only [h1, cond_true]
theorem box1 (v : Value) (H : AH) : vcells (.agg [v].toArray) = [v] := rfl

theorem Bytes_ok (l : List Int) (k : Nat) (hk : k ≤ 1000000) (s : Value) (H : AH) (Q : Value → AH → Prop) (hs : Ints H s l)
    (hq : ∀ v H', OwnB H.n H' v (byts k l) → HExt H H' → Q v H') : Got (xc Try.prog tab 28 [s, .int .i64 (k : Int)] H) Q := by
  refine got_call (res := [.tmp 4]) rfl ?_
  obtain ⟨o1, o2⟩ := sl_slice hs
  have hm : (if (0 : Int) < (k : Int) then (k : Int) else 0) = (k : Int) := by split <;> omega
  have hmk := fun H => pMks_ok (.int .u8 0) k (by omega) .i64 H (k : Int) rfl
  have o3 := fun H => pMk1_slice H o1 o2
  simp only [ofArgs, run_seq, run_block, run_ops, run_skip, run_exit, run_ret, thenQ_normal, thenQ_exit, thenQ_ret, blockQ_normal, blockQ_exit, blockQ_ret, retQ_ret, retQ_normal, ops_nil, ops_none, got_some, ops_wT, ops_wTn, ops_wF, ops_wFn, ops_wU, dops_wT, dops_wTn, dops_wF, dops_wFn, dops_wU, run_condT, run_condF, alt2_int, altB_bool, altI_int, altBB_bool, v_min, v_max, v_not, v_neg, optEv_none, optEv_some, isSome'_none, isSome'_some, pExt0, pExt1, pExt2, Bool.false_and, Bool.true_and, Bool.not_true, Bool.not_false, cond_true, cond_false, dops_nil, dops_none, xval_call, v_mov, v_bin, v_len, v_ext, v_idxA, v_ld, v_st, v_app, v_appN, v_cvs, v_bs1, pBs1, v_slc, v_conv, v_fld, v_fldA, v_new, v_box, v_mks, v_copy, v_isnil, v_nilck, v_pick, ev, evs_nil, evs_cons, fr_get_cons, fr_put_nil, fr_put_cons, fr_put_some, fr_put_none, fr_keep_nil, fr_keep_cons, fr_has_nil, fr_has_cons, Option.bind_some, Option.map_some, xbin, ibin, xresult_eq, xress_nil, xress_tmp, resV, ex_some, if_true, if_false, ite_true, ite_false, reduceIte, reduceCtorEq, Nat.reduceEqDiff, Nat.reduceLT, Nat.reduceLeDiff, Int.reduceLT, Int.reduceLE, Nat.zero_add, Nat.reduceAdd, Bool.false_eq_true, decide_eq_true_eq, decide_eq_false_iff_not, true_implies, false_implies, and_true, true_and, v_mk1, o3, box1, hm, hmk, pLen, Int.ofNat_eq_natCast, AH.push_n]
  have h1 : Strm H.n ((H.push ⟨[s], 1, false, false⟩).push ⟨rep k [.int .u8 0], 1, false, false⟩) H.n s l := by
    refine ⟨Nat.le_refl _, by simp; omega, by rw [AH.get_push, if_neg (by simp), AH.get_push, if_pos rfl], ?_, fun b hb => Sl.lt hs hb⟩
    exact Sl.ext ((hext_push H _).trans (hext_push _ _)) hs
  have h2 : OwnB H.n ((H.push ⟨[s], 1, false, false⟩).push ⟨rep k [.int .u8 0], 1, false, false⟩) (.slice (some ⟨H.n + 1, 0, none⟩) k k) ([] ++ List.replicate k 0) := by
    have hp := Own.pushed (H.push ⟨[s], 1, false, false⟩) (rep k [.int .u8 0]) 1 k false (by rw [rep_length]; simp)
    have hp' := hp.le (n0 := H.n) (by simp)
    unfold OwnB
    rw [rep_one] at hp'
    simpa [rep_one] using hp'
  refine bytes_l0 H.n H.n _ k [] s l _ _ _ _ h1 h2 (fun ⟨o, l', c, e⟩ => by simp at e) (by simp; omega) (by simp; omega) (by simp) (by simp) ?_
  intro H' o1' k1
  simp only [ofArgs, run_seq, run_block, run_ops, run_skip, run_exit, run_ret, thenQ_normal, thenQ_exit, thenQ_ret, blockQ_normal, blockQ_exit, blockQ_ret, retQ_ret, retQ_normal, ops_nil, ops_none, got_some, ops_wT, ops_wTn, ops_wF, ops_wFn, ops_wU, dops_wT, dops_wTn, dops_wF, dops_wFn, dops_wU, run_condT, run_condF, alt2_int, altB_bool, altI_int, altBB_bool, v_min, v_max, v_not, v_neg, optEv_none, optEv_some, isSome'_none, isSome'_some, pExt0, pExt1, pExt2, Bool.false_and, Bool.true_and, Bool.not_true, Bool.not_false, cond_true, cond_false, dops_nil, dops_none, xval_call, v_mov, v_bin, v_len, v_ext, v_idxA, v_ld, v_st, v_app, v_appN, v_cvs, v_bs1, pBs1, v_slc, v_conv, v_fld, v_fldA, v_new, v_box, v_mks, v_copy, v_isnil, v_nilck, v_pick, ev, evs_nil, evs_cons, fr_get_cons, fr_put_nil, fr_put_cons, fr_put_some, fr_put_none, fr_keep_nil, fr_keep_cons, fr_has_nil, fr_has_cons, Option.bind_some, Option.map_some, xbin, ibin, xresult_eq, xress_nil, xress_tmp, resV, ex_some, if_true, if_false, ite_true, ite_false, reduceIte, reduceCtorEq, Nat.reduceEqDiff, Nat.reduceLT, Nat.reduceLeDiff, Int.reduceLT, Int.reduceLE, Nat.zero_add, Nat.reduceAdd, Bool.false_eq_true, decide_eq_true_eq, decide_eq_false_iff_not, true_implies, false_implies, and_true, true_and]
  refine hq _ H' (by simpa using o1') ?_
  have := ((hext_push H ⟨[s], 1, false, false⟩).trans (hext_push _ ⟨rep k [.int .u8 0], 1, false, false⟩))
  exact (this.keep (Nat.le_refl _)).trans k1
end Go.Proofs.Ytkhjmmidaihbhaa.D
