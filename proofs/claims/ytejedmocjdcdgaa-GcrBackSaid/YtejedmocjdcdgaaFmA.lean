/- What functions that the law reaches compute, on a heap of the run's own: the conditions stand in each theorem. -/
import Derived.Test.YtejedmocjdcdgaaFlA
set_option linter.unusedSimpArgs false
set_option linter.unusedVariables false
namespace Go.Proofs.Ytejedmocjdcdgaa.D
open Go Go.Det

/-- the cells of the last bits of a byte -/
def fmb (c : Nat) : Nat → List Int
  | 0 => []
  | k + 1 => (if c.testBit k then [1, 1] else [2]) ++ fmb c k
def fmw (l : List Int) : List Int := l.flatMap fun c => fmb c.toNat 8
theorem fmb_len (c k : Nat) : (fmb c k).length ≤ 2 * k := by
  induction k with
  | zero => simp [fmb]
  | succ k ih => simp only [fmb, List.length_append]; split <;> simp <;> omega
theorem fmb_sum (c k : Nat) : (fmb c k).sum = 2 * (k : Int) := by
  induction k with
  | zero => simp [fmb]
  | succ k ih => simp only [fmb, List.sum_append, ih]; split <;> simp <;> omega
theorem fmb_12 (c k : Nat) : ∀ a ∈ fmb c k, 1 ≤ a ∧ a ≤ 2 := by
  induction k with
  | zero => intro a h; simp [fmb] at h
  | succ k ih =>
    intro a h
    simp only [fmb, List.mem_append] at h
    rcases h with h | h
    · split at h <;> simp at h <;> omega
    · exact ih a h
theorem fmw_cons (c : Int) (l : List Int) : fmw (c :: l) = fmb c.toNat 8 ++ fmw l := by simp [fmw]
theorem fmw_len (l : List Int) : (fmw l).length ≤ 16 * l.length := by
  induction l with
  | nil => simp [fmw]
  | cons c l ih => rw [fmw_cons, List.length_append, List.length_cons]; have := fmb_len c.toNat 8; omega
theorem fmw_sum (l : List Int) : (fmw l).sum = 16 * (l.length : Int) := by
  induction l with
  | nil => simp [fmw]
  | cons c l ih => rw [fmw_cons, List.sum_append, fmb_sum, ih, List.length_cons]; omega
theorem fmw_12 (l : List Int) : ∀ a ∈ fmw l, 1 ≤ a ∧ a ≤ 2 := by
  induction l with
  | nil => intro a h; simp [fmw] at h
  | cons c l ih =>
    intro a h
    rw [fmw_cons, List.mem_append] at h
    rcases h with h | h
    · exact fmb_12 _ _ a h
    · exact ih a h

theorem app_two {n0 : Nat} {H : AH} {v : Value} {acc : List Int} {x y : Int} {Q : Value → AH → Prop} (ho : OwnI n0 H v acc) (hn : n0 ≤ H.n) (hle : acc.length + 2 ≤ 17592186044416)
    (hq : ∀ v' H', OwnI n0 H' v' (acc ++ [x, y]) → Stp v H v' H' → Q v' H') : Got (xapp (H.push ⟨[.int .i64 x, .int .i64 y], 1, false, false⟩) 1 8 v (.slice (some ⟨H.n, 0, none⟩) 2 2)) Q := by
  refine xapp_own (Own.ext (hext_push H _) ho) (by simp; omega) (Sl.pushed H [.int .i64 x, .int .i64 y] 1 2 false false rfl) rfl (Nat.le_refl _) (by omega) (by omega) ?_
  intro v' H' h1 h2
  refine hq v' H' (by simpa [OwnI] using h1) ⟨by have := h2.n; simp at this; omega, fun b hb hnb => ?_, fun b h => ?_⟩
  · rw [h2.get b (by simp; omega) hnb, AH.get_push, if_neg (by omega)]
  · rcases h2.new b h with h | h
    · exact .inl h
    · exact .inr (by simp at h; omega)
theorem app_oneB {n0 : Nat} {H : AH} {v : Value} {acc : List Int} {x : Int} {Q : Value → AH → Prop} (ho : OwnB n0 H v acc) (hn : n0 ≤ H.n) (hle : acc.length + 1 ≤ 1000000000)
    (hq : ∀ v' H', OwnB n0 H' v' (acc ++ [x]) → Stp v H v' H' → Q v' H') : Got (xapp (H.push ⟨[.int .u8 x], 1, false, false⟩) 1 1 v (.slice (some ⟨H.n, 0, none⟩) 1 1)) Q := by
  refine xapp_own (Own.ext (hext_push H _) ho) (by simp; omega) (Sl.pushed H [.int .u8 x] 1 1 false false rfl) rfl (Nat.le_refl _) (by omega) (by omega) ?_
  intro v' H' h1 h2
  refine hq v' H' (by simpa [OwnB] using h1) ⟨by have := h2.n; simp at this; omega, fun b hb hnb => ?_, fun b h => ?_⟩
  · rw [h2.get b (by simp; omega) hnb, AH.get_push, if_neg (by omega)]
  · rcases h2.new b h with h | h
    · exact .inl h
    · exact .inr (by simp at h; omega)

end Go.Proofs.Ytejedmocjdcdgaa.D
