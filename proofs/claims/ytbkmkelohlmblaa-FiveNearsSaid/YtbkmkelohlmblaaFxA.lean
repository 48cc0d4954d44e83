/- What functions that the law reaches compute, on a heap of the run's own: the conditions stand in each theorem. -/
import Derived.Test.YtbkmkelohlmblaaDet22
import Derived.Test.YtbkmkelohlmblaaTab
set_option linter.unusedSimpArgs false
set_option linter.unusedVariables false
namespace Go.Proofs.Ytbkmkelohlmblaa.D
open Go Go.Det

/-- The running sums of a list. -/
def sums : Int → List Int → List Int
  | _, [] => []
  | a, p :: t => (a + p) :: sums (a + p) t
/-- The differences of a list. -/
def difs : Int → List Int → List Int
  | _, [] => []
  | a, x :: t => (x - a) :: difs x t
theorem sums_len (t : List Int) : ∀ a, (sums a t).length = t.length := by
  induction t with
  | nil => intro a; rfl
  | cons p t ih => intro a; simp [sums, ih]
theorem difs_len (t : List Int) : ∀ a, (difs a t).length = t.length := by
  induction t with
  | nil => intro a; rfl
  | cons p t ih => intro a; simp [difs, ih]
theorem difs_sums (t : List Int) : ∀ a, difs a (sums a t) = t := by
  induction t with
  | nil => intro a; rfl
  | cons p t ih => intro a; simp only [sums, difs, ih]; rw [Int.add_comm a p, Int.add_sub_cancel]
theorem sums_difs (t : List Int) : ∀ a, sums a (difs a t) = t := by
  induction t with
  | nil => intro a; rfl
  | cons p t ih =>
    intro a
    simp only [sums, difs]
    have : a + (p - a) = p := by omega
    rw [this, ih]
/-- Times that a track may have. -/
def Ok (t : List Int) : Prop := ∀ p ∈ t, 1 ≤ p ∧ p ≤ 100000
/-- The track of raw numbers. -/
def trk (l : List Int) : List Int := (l.take 1000).map fun x => 8 + x % 300
theorem trk_len (l : List Int) : (trk l).length ≤ 1000 := by simp [trk]; omega
theorem trk_ok (l : List Int) : ∀ p ∈ trk l, 8 ≤ p ∧ p ≤ 307 := by
  intro p hp
  simp only [trk, List.mem_map] at hp
  obtain ⟨x, _, rfl⟩ := hp
  omega
theorem sums_bnd (t : List Int) : ∀ a, 0 ≤ a → Ok t → ∀ x ∈ sums a t, 0 ≤ x ∧ x ≤ a + 100000 * (t.length : Int) := by
  induction t with
  | nil => intro a _ _ x hx; simp [sums] at hx
  | cons p t ih =>
    intro a h0 h x hx
    have hp := h p (by simp)
    simp only [sums, List.mem_cons] at hx
    simp only [List.length_cons]
    rcases hx with rfl | hx
    · omega
    · have := ih (a + p) (by omega) (fun q hq => h q (by simp [hq])) x hx
      omega
theorem app1 (pre : List Int) (a : Int) (rest : List Int) : pre ++ a :: rest = (pre ++ [a]) ++ rest := by simp
theorem below_xc' (a b : Int) (H : AH) (hb : 0 < b) (hb' : b < 4611686018427387904) : xc Try.prog tab 11 [.int .i64 a, .int .i64 b] H = some (.int .i64 (a % b), H) := by
  have go : Got (xc Try.prog tab 11 [.int .i64 a, .int .i64 b] H) fun v H' => v = .int .i64 (a % b) ∧ H' = H := by
    refine got_call (res := [.tmp 4]) rfl ?_
    have hb0 : ¬ b = 0 := by omega
    have h1 := Int.tmod_lt_of_pos a hb
    have h2 : -b < Int.tmod a b := by
      have := Int.lt_tmod_of_pos a hb; simpa using this
    have e : a % b = if Int.tmod a b < 0 then Int.tmod a b + b else Int.tmod a b := by
      have h3 : a = b * Int.tdiv a b + Int.tmod a b := (Int.mul_tdiv_add_tmod a b).symm
      have h4 : a % b = Int.tmod a b % b := by
        conv => lhs; rw [h3]
        rw [Int.mul_add_emod_self_left]
      rw [h4]
      split
      · rw [← Int.add_emod_right, Int.emod_eq_of_lt (by omega) (by omega)]
      · rw [Int.emod_eq_of_lt (by omega) (by omega)]
    simp only [ofArgs, run_seq, run_block, run_ops, run_skip, run_exit, run_ret, thenQ_normal, thenQ_exit, thenQ_ret, blockQ_normal, blockQ_exit, blockQ_ret, retQ_ret, retQ_normal, ops_nil, ops_none, got_some, ops_wT, ops_wTn, ops_wF, ops_wFn, ops_wU, dops_wT, dops_wTn, dops_wF, dops_wFn, dops_wU, run_condT, run_condF, alt2_int, altB_bool, altI_int, altBB_bool, v_min, v_max, v_not, v_neg, optEv_none, optEv_some, isSome'_none, isSome'_some, pExt0, pExt1, pExt2, Bool.false_and, Bool.true_and, Bool.not_true, Bool.not_false, cond_true, cond_false, dops_nil, dops_none, xval_call, v_mov, v_bin, v_len, v_ext, v_idxA, v_ld, v_st, v_app, v_appN, v_cvs, v_bs1, pBs1, v_slc, v_conv, v_fld, v_fldA, v_new, v_box, v_mks, v_copy, v_isnil, v_nilck, v_pick, ev, evs_nil, evs_cons, fr_get_cons, fr_put_nil, fr_put_cons, fr_put_some, fr_put_none, fr_keep_nil, fr_keep_cons, fr_has_nil, fr_has_cons, Option.bind_some, Option.map_some, xbin, ibin, xresult_eq, xress_nil, xress_tmp, resV, ex_some, if_true, if_false, ite_true, ite_false, reduceIte, reduceCtorEq, Nat.reduceEqDiff, Nat.reduceLT, Nat.reduceLeDiff, Int.reduceLT, Int.reduceLE, Nat.zero_add, Nat.reduceAdd, Bool.false_eq_true, decide_eq_true_eq, decide_eq_false_iff_not, true_implies, false_implies, and_true, true_and, run_cond, cond_some, hb0]
    refine ⟨fun h => ?_, fun h => ?_⟩
    · rw [wrI _ (by omega) (by omega), e, if_pos h]
    · rw [e, if_neg h]
  obtain ⟨v, H', h, rfl, rfl⟩ := go
  exact h
theorem below_xc (a b : Int) (H : AH) (hb : 0 < b) (hb' : b < 1000000) : xc Try.prog tab 11 [.int .i64 a, .int .i64 b] H = some (.int .i64 (a % b), H) := below_xc' a b H hb (by omega)

theorem got_xc {f : FuncId} {args : List Value} {H : AH} {v : Value} (h : Got (xc Try.prog tab f args H) fun v' H' => v' = v ∧ H' = H) : xc Try.prog tab f args H = some (v, H) := by
  obtain ⟨v, H', h, rfl, rfl⟩ := h
  exact h

end Go.Proofs.Ytbkmkelohlmblaa.D
