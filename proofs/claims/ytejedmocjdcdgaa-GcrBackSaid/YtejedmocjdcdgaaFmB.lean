/- What functions that the law reaches compute, on a heap of the run's own: the conditions stand in each theorem. -/
import Derived.Test.YtejedmocjdcdgaaFmA
set_option linter.unusedSimpArgs false
set_option linter.unusedVariables false
namespace Go.Proofs.Ytejedmocjdcdgaa.D
open Go Go.Det

theorem shr_step (c k : Nat) : 2 * (c >>> (k + 1)) + (c.testBit k).toNat = c >>> k := by
  rw [Nat.shiftRight_succ, Nat.testBit_eq_decide_div_mod_eq, ← Nat.shiftRight_eq_div_pow]
  generalize c >>> k = x
  rcases Nat.mod_two_eq_zero_or_one x with h | h <;> simp [h] <;> omega
theorem shr_lt2 (c k : Nat) (hc : c < 256) : c >>> (k + 1) < 128 := by
  rw [Nat.shiftRight_eq_div_pow, Nat.pow_succ]
  have : c / (2 ^ k * 2) ≤ c / 2 := Nat.div_le_div_left (by have := Nat.pow_pos (n := k) (by omega : 0 < 2); omega) (by omega)
  omega
end Go.Proofs.Ytejedmocjdcdgaa.D
