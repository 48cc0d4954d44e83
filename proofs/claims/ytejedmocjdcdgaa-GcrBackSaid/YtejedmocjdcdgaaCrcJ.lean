/- What functions that the law reaches compute, on a heap of the run's own: the conditions stand in each theorem. -/
import Derived.Test.YtejedmocjdcdgaaCrcE
set_option linter.unusedSimpArgs false
set_option linter.unusedVariables false
namespace Go.Proofs.Ytejedmocjdcdgaa.D
open Go Go.Det

theorem crcFold_app (l m : List Int) (s : Nat) : crcFold s (l ++ m) = crcFold (crcFold s l) m := by
  unfold crcFold; rw [List.foldl_append]
theorem xorFold_app (m : List Int) : ∀ s t : Nat, xorFold (s ^^^ t) m = s ^^^ xorFold t m := by
  induction m with
  | nil => intro s t; rfl
  | cons a m ih => intro s t; rw [xorFold_cons, xorFold_cons, Nat.xor_assoc, ih]
theorem xorFold_join (l m : List Int) : xorFold 0 (l ++ m) = xorFold 0 l ^^^ xorFold 0 m := by
  have h1 : xorFold 0 (l ++ m) = xorFold (xorFold 0 l) m := by unfold xorFold; rw [List.foldl_append]
  have h2 := xorFold_app m (xorFold 0 l) 0
  rw [Nat.xor_zero] at h2
  rw [h1, h2]
theorem xorFold_lt (l : List Int) (h : B8 l) : ∀ s, s < 256 → xorFold s l < 256 := by
  induction l with
  | nil => intro s hs; exact hs
  | cons c l ih =>
    intro s hs
    have hc := h c (by simp)
    rw [xorFold_cons]
    exact ih (fun b hb => h b (by simp [hb])) _ (Nat.xor_lt_two_pow (n := 8) (by omega) (by omega))

theorem v_bsl2 {P : Program} {T : XTab} (fr : Fr) (H : AH) (dd : Option Nat) (e : TypeId) (z u v : Value) (x y : Operand) (hx : ev fr x = some u) (hy : ev fr y = some v) (h1 : one u = true) (h2 : vcells u = [u]) (h3 : one v = true) (h4 : vcells v = [v]) :
    xval P (xc P T) ⟨dd, .bslice e 1 2 [z] [(0, x), (1, y)], none⟩ fr H = some (.slice (some ⟨H.n, 0, none⟩) 2 2, H.push ⟨[u, v], 1, false, false⟩) := by
  rw [xval_op dd _ fr H rfl, e_bslice]
  simp only [List.map_cons, List.map_nil, rep, List.append_nil, xfill, hx, hy, h2, h4, List.all_cons, List.all_nil, h1, h3]
  rfl

end Go.Proofs.Ytejedmocjdcdgaa.D
