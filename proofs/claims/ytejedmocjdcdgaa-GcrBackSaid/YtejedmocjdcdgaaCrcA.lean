/- What functions that the law reaches compute, on a heap of the run's own: the conditions stand in each theorem. -/
import Derived.Test.YtejedmocjdcdgaaMkA
import Derived.Test.YtejedmocjdcdgaaDet23
set_option linter.unusedSimpArgs false
set_option linter.unusedVariables false
namespace Go.Proofs.Ytejedmocjdcdgaa.D
open Go Go.Det

/-- one step of the sum -/
def crcStep (x : Nat) : Nat := if 65535 < x * 2 then (x * 2) ^^^ 69665 else x * 2
def crcRounds : Nat → Nat → Nat
  | 0, x => x
  | k + 1, x => crcRounds k (crcStep x)
/-- the sum with a further byte -/
def nx (s c : Nat) : Nat := crcRounds 8 ((s &&& 65535) ^^^ (c * 256))

theorem crcStep_lt (x : Nat) (h : x < 65536) : crcStep x < 65536 := by
  unfold crcStep
  split
  · have h1 : ((x * 2) ^^^ 69665) = ((x * 2 - 65536) ^^^ 4129) := by
      have e1 : x * 2 = 2 ^ 16 * 1 + (x * 2 - 65536) := by omega
      have e2 : (69665 : Nat) = 2 ^ 16 * 1 + 4129 := by decide
      apply Nat.eq_of_testBit_eq
      intro b
      rw [Nat.testBit_xor, Nat.testBit_xor]
      rcases Nat.lt_or_ge b 16 with hb | hb
      · have a1 : (x * 2).testBit b = (x * 2 - 65536).testBit b := by
          conv => lhs; rw [e1]
          rw [Nat.testBit_two_pow_mul_add _ (by omega), if_pos hb]
        have a2 : (69665 : Nat).testBit b = (4129 : Nat).testBit b := by
          rw [e2, Nat.testBit_two_pow_mul_add _ (by omega), if_pos hb]
        rw [a1, a2]
      · have a1 : (x * 2).testBit b = (1 : Nat).testBit (b - 16) := by
          conv => lhs; rw [e1]
          rw [Nat.testBit_two_pow_mul_add _ (by omega), if_neg (by omega)]
        have a2 : (69665 : Nat).testBit b = (1 : Nat).testBit (b - 16) := by
          rw [e2, Nat.testBit_two_pow_mul_add _ (by omega), if_neg (by omega)]
        have a3 : (x * 2 - 65536).testBit b = false := Nat.testBit_lt_two_pow (Nat.lt_of_lt_of_le (by omega : x * 2 - 65536 < 2 ^ 16) (Nat.pow_le_pow_right (by omega) hb))
        have a4 : (4129 : Nat).testBit b = false := Nat.testBit_lt_two_pow (Nat.lt_of_lt_of_le (by omega : 4129 < 2 ^ 16) (Nat.pow_le_pow_right (by omega) hb))
        rw [a1, a2, a3, a4]; simp
    rw [h1]
    exact Nat.xor_lt_two_pow (n := 16) (by omega) (by omega)
  · omega

theorem nx_lt0 (s c : Nat) (hc : c < 256) : (s &&& 65535) ^^^ (c * 256) < 65536 :=
  Nat.xor_lt_two_pow (n := 16) (Nat.lt_of_le_of_lt Nat.and_le_right (by omega)) (by omega)
theorem rounds_lt (k : Nat) : ∀ x, x < 65536 → crcRounds k x < 65536 := by
  induction k with
  | zero => intro x h; exact h
  | succ k ih => intro x h; exact ih _ (crcStep_lt x h)
theorem nx_lt (s c : Nat) (hc : c < 256) : nx s c < 65536 := rounds_lt 8 _ (nx_lt0 s c hc)

end Go.Proofs.Ytejedmocjdcdgaa.D
