/- What functions that the law reaches compute, on a heap of the run's own: the conditions stand in each theorem. -/
import Derived.Test.YtbkmkelohlmblaaFvQ
set_option linter.unusedSimpArgs false
set_option linter.unusedVariables false
namespace Go.Proofs.Ytbkmkelohlmblaa.D
open Go Go.Det

/-! ### how near a rounded number is -/
theorem rnd_near (m n : Nat) (more : Bool) (hn : 1 ≤ n) : rnd m n more * 2 ^ n ≤ m + 2 ^ (n - 1) ∧ m + more.toNat ≤ rnd m n more * 2 ^ n + 2 ^ (n - 1) := by
  have hp := Nat.pow_pos (n := n - 1) (by omega : 0 < 2)
  have e : 2 ^ n = 2 * 2 ^ (n - 1) := by rw [← Nat.pow_succ']; congr 1; omega
  have h := Nat.div_add_mod m (2 ^ n)
  have hl := Nat.mod_lt m (by omega : 2 ^ n > 0)
  unfold rnd
  generalize m / 2 ^ n = c at *
  generalize m % 2 ^ n = r at *
  generalize 2 ^ (n - 1) = P at *
  generalize 2 ^ n = T at *
  rw [Nat.mul_comm] at h
  have hb : more.toNat ≤ 1 := by cases more <;> decide
  by_cases c1 : r > P ∨ (r = P ∧ (more = true ∨ c % 2 = 1))
  · rw [if_pos c1, Nat.add_mul, Nat.one_mul]
    generalize c * T = X at *
    have : r ≥ P := by omega
    omega
  · rw [if_neg c1]
    generalize c * T = X at *
    have h1 : r ≤ P := by omega
    have h2 : r + more.toNat ≤ P := by
      cases more with
      | false => exact h1
      | true => show r + 1 ≤ P; by_cases h3 : r = P; exact absurd (.inr ⟨h3, .inl rfl⟩) c1; omega
    omega
theorem rnd_lo (m n : Nat) (more : Bool) : m / 2 ^ n ≤ rnd m n more ∧ rnd m n more ≤ m / 2 ^ n + 1 := by unfold rnd; split <;> omega
theorem div_near (s t : Bool) (a b E : Nat) (a1 : 2147483648 ≤ a) (a2 : a < 4294967296) (b1 : 2147483648 ≤ b) (b2 : b < 4294967296) (e1 : 1 ≤ E) :
    ∃ q e, 2147483648 ≤ q ∧ q < 4294967296 ∧ div5 (some (s, a, E)) (some (t, b, E)) = (some (!(s == t), q, e), 0) ∧
      ((e = 129 ∧ 8 * (q * b) ≤ a * 17179869184 + 4 * b ∧ a * 17179869184 ≤ 8 * (q * b) + 4 * b) ∨ (e = 128 ∧ 4 * (q * b) ≤ a * 17179869184 + 2 * b ∧ a * 17179869184 ≤ 4 * (q * b) + 2 * b)) := by
  have hx : xp (some (s, a, E)) - xp (some (t, b, E)) - 34 = -34 := by simp only [xp]; omega
  unfold div5
  rw [if_neg (by show ¬ b = 0; omega), if_neg (by show ¬ a = 0; omega), hx]
  show ∃ q e, _ ∧ _ ∧ pack (!(s == t)) (a * 17179869184 / b) (-34) (((a * 17179869184 % b : Nat) : Int) != 0) = _ ∧ _
  have h := Nat.div_add_mod (a * 17179869184) b
  have hl := Nat.mod_lt (a * 17179869184) (by omega : b > 0)
  have hmore : a * 17179869184 % b ≤ b * (((a * 17179869184 % b : Nat) : Int) != 0).toNat := by
    by_cases hz : a * 17179869184 % b = 0
    · rw [hz]; exact Nat.zero_le _
    · have : (((a * 17179869184 % b : Nat) : Int) != 0) = true := by generalize a * 17179869184 % b = x at hz; simp [hz]
      rw [this]; show _ ≤ b * 1; omega
  generalize (((a * 17179869184 % b : Nat) : Int) != 0) = more at hmore
  have q1 : 8589934592 ≤ a * 17179869184 / b := by rw [Nat.le_div_iff_mul_le (by omega)]; omega
  have q2 : a * 17179869184 / b ≤ 34359738360 := by
    have : a * 17179869184 / b < 34359738361 := by rw [Nat.div_lt_iff_lt_mul (by omega)]; omega
    omega
  generalize a * 17179869184 / b = Q at *
  generalize a * 17179869184 % b = r at *
  rw [Nat.mul_comm] at h
  have hf : ∀ (q e : Nat), 1 ≤ e → e ≤ 255 → fin5 (!(s == t)) q (e : Int) = (some (!(s == t), q, e), 0) := by
    intro q e h1 h2
    unfold fin5
    rw [if_neg (by omega), if_neg (by omega)]
    rfl
  have near : ∀ n, 1 ≤ n → rnd Q n more * b * 2 ^ n ≤ a * 17179869184 + 2 ^ (n - 1) * b ∧ a * 17179869184 ≤ rnd Q n more * b * 2 ^ n + 2 ^ (n - 1) * b := by
    intro n hn
    obtain ⟨n1, n2⟩ := rnd_near Q n more hn
    have m1 := Nat.mul_le_mul_right b n1
    have m2 := Nat.mul_le_mul_right b n2
    have c1 : rnd Q n more * 2 ^ n * b = rnd Q n more * b * 2 ^ n := by rw [Nat.mul_assoc, Nat.mul_comm (2 ^ n), ← Nat.mul_assoc]
    rw [Nat.add_mul, c1] at m1
    rw [Nat.add_mul, Nat.add_mul, c1, Nat.mul_comm more.toNat] at m2
    generalize Q * b = X at *
    generalize rnd Q n more * b * 2 ^ n = Y at *
    generalize 2 ^ (n - 1) * b = Z at *
    generalize b * more.toNat = U at *
    omega
  unfold pack
  rw [if_neg (by omega)]
  unfold pkm
  by_cases c : 17179869184 ≤ Q
  · have hb : bl Q = 35 := bl_eq Q 34 (by omega) (by omega)
    have n3 := near 3 (by omega)
    have lo := rnd_lo Q 3 more
    have hr : rnd Q 3 more < 4294967296 := by
      by_cases c2 : Q < 34359738360
      · have : Q / 2 ^ 3 < 4294967295 := by rw [show (2 : Nat) ^ 3 = 8 from rfl]; omega
        omega
      · have : Q = 34359738360 := by omega
        subst this
        unfold rnd
        rw [if_neg (by cases more <;> decide)]
        decide
    have hg : 2147483648 ≤ rnd Q 3 more := by
      have : 2147483648 ≤ Q / 2 ^ 3 := by rw [show (2 : Nat) ^ 3 = 8 from rfl]; omega
      omega
    rw [hb, if_neg (by decide), show (35 : Nat) - 32 = 3 from rfl, if_neg (by omega)]
    refine ⟨rnd Q 3 more, 129, hg, hr, hf _ 129 (by decide) (by decide), .inl ⟨rfl, ?_⟩⟩
    rw [show (2 : Nat) ^ 3 = 8 from rfl, show (2 : Nat) ^ (3 - 1) = 4 from rfl] at n3
    omega
  · have hb : bl Q = 34 := bl_eq Q 33 (by omega) (by omega)
    have n2 := near 2 (by omega)
    have lo := rnd_lo Q 2 more
    have hr : rnd Q 2 more ≤ 4294967296 := by
      have : Q / 2 ^ 2 < 4294967296 := by rw [show (2 : Nat) ^ 2 = 4 from rfl]; omega
      omega
    have hg : 2147483648 ≤ rnd Q 2 more := by
      have : 2147483648 ≤ Q / 2 ^ 2 := by rw [show (2 : Nat) ^ 2 = 4 from rfl]; omega
      omega
    rw [show (2 : Nat) ^ 2 = 4 from rfl, show (2 : Nat) ^ (2 - 1) = 2 from rfl] at n2
    rw [hb, if_neg (by decide), show (34 : Nat) - 32 = 2 from rfl]
    by_cases c2 : rnd Q 2 more = 4294967296
    · rw [if_pos c2]
      rw [c2] at n2
      exact ⟨2147483648, 129, by omega, by omega, hf _ 129 (by decide) (by decide), .inl ⟨rfl, by omega, by omega⟩⟩
    · rw [if_neg c2]
      exact ⟨rnd Q 2 more, 128, hg, by omega, hf _ 128 (by decide) (by decide), .inr ⟨rfl, by omega, by omega⟩⟩
/-- a product of two mantissas: V is what it is after it was rounded -/
theorem mul_near (s : Bool) (Z : Nat) (z1 : 4611686018427387904 ≤ Z) (z2 : Z < 18446744073709551616) (x : Int) (x1 : -120 ≤ x) (x2 : x ≤ 0) :
    ∃ q n : Nat, 2147483648 ≤ q ∧ q < 4294967296 ∧ 31 ≤ n ∧ n ≤ 33 ∧ (n = 33 → q = 2147483648) ∧ pack s Z x false = (some (s, q, (x + n + 160).toNat), 0) ∧ q * 2 ^ n ≤ Z + 2147483648 ∧ Z ≤ q * 2 ^ n + 2147483648 := by
  have hf : ∀ (q n : Nat), 31 ≤ n → n ≤ 33 → fin5 s q (x + (n : Int) + 160) = (some (s, q, (x + n + 160).toNat), 0) := by
    intro q n h1 h2
    unfold fin5
    rw [if_neg (by omega), if_neg (by omega)]
  unfold pack
  rw [if_neg (by omega)]
  unfold pkm
  by_cases c : 9223372036854775808 ≤ Z
  · have hb : bl Z = 64 := bl_eq Z 63 (by omega) (by omega)
    obtain ⟨n1, n2⟩ := rnd_near Z 32 false (by omega)
    have lo := rnd_lo Z 32 false
    have hr : rnd Z 32 false ≤ 4294967296 := by
      have : Z / 2 ^ 32 < 4294967296 := by rw [show (2 : Nat) ^ 32 = 4294967296 from rfl]; omega
      omega
    have hg : 2147483648 ≤ rnd Z 32 false := by
      have : 2147483648 ≤ Z / 2 ^ 32 := by rw [show (2 : Nat) ^ 32 = 4294967296 from rfl]; omega
      omega
    rw [show (2 : Nat) ^ (32 - 1) = 2147483648 from rfl] at n1 n2
    have n2 : Z ≤ rnd Z 32 false * 2 ^ 32 + 2147483648 := n2
    rw [hb, if_neg (by decide), show (64 : Nat) - 32 = 32 from rfl]
    by_cases c2 : rnd Z 32 false = 4294967296
    · rw [if_pos c2]
      rw [c2] at n1 n2
      exact ⟨2147483648, 33, by omega, by omega, by omega, by omega, fun _ => rfl, hf _ 33 (by decide) (by decide), by omega, by omega⟩
    · rw [if_neg c2]
      exact ⟨rnd Z 32 false, 32, hg, by omega, by omega, by omega, fun h => absurd h (by decide), hf _ 32 (by decide) (by decide), n1, n2⟩
  · have hb : bl Z = 63 := bl_eq Z 62 (by omega) (by omega)
    obtain ⟨n1, n2⟩ := rnd_near Z 31 false (by omega)
    have lo := rnd_lo Z 31 false
    have hr : rnd Z 31 false ≤ 4294967296 := by
      have : Z / 2 ^ 31 < 4294967296 := by rw [show (2 : Nat) ^ 31 = 2147483648 from rfl]; omega
      omega
    have hg : 2147483648 ≤ rnd Z 31 false := by
      have : 2147483648 ≤ Z / 2 ^ 31 := by rw [show (2 : Nat) ^ 31 = 2147483648 from rfl]; omega
      omega
    rw [show (2 : Nat) ^ (31 - 1) = 1073741824 from rfl] at n1 n2
    have n2 : Z ≤ rnd Z 31 false * 2 ^ 31 + 1073741824 := n2
    rw [hb, if_neg (by decide), show (63 : Nat) - 32 = 31 from rfl]
    by_cases c2 : rnd Z 31 false = 4294967296
    · rw [if_pos c2]
      rw [c2, show (4294967296 : Nat) * 2 ^ 31 = 9223372036854775808 from rfl] at n1 n2
      refine ⟨2147483648, 32, by decide, by decide, by decide, by decide, fun h => absurd h (by decide), hf _ 32 (by decide) (by decide), ?_, ?_⟩
      · rw [show (2147483648 : Nat) * 2 ^ 32 = 9223372036854775808 from rfl]; clear hf; omega
      · rw [show (2147483648 : Nat) * 2 ^ 32 = 9223372036854775808 from rfl]; clear hf; omega
    · rw [if_neg c2]
      exact ⟨rnd Z 31 false, 31, hg, by omega, by omega, by omega, fun h => absurd h (by decide), hf _ 31 (by decide) (by decide), Nat.le_trans n1 (Nat.add_le_add_left (by decide) _), Nat.le_trans n2 (Nat.add_le_add_left (by decide) _)⟩
theorem pack_one (s : Bool) (j : Nat) (x : Int) (h1 : -120 ≤ x + j) (h2 : x + j ≤ 60) : pack s (2 ^ j) x false = (some (s, 2147483648, (x + j + 129).toNat), 0) := by
  have := pack_val s 1 j (by decide) x (by decide) h1 h2
  have hb : bl 1 = 1 := bl_eq 1 0 (by decide) (by decide)
  rw [Nat.one_mul, hb] at this
  rw [this]
  have e : (x + j + ((1 : Nat) : Int) + 128).toNat = (x + j + 129).toNat := by omega
  rw [e]
def small (r : F5 × Int) (E : Nat) : Prop := r.2 = 0 ∧ (r.1 = none ∨ ∃ s m e, r.1 = some (s, m, e) ∧ e + 31 ≤ E)
theorem small_0 (s : Bool) (x : Int) (E : Nat) : small (pack s 0 x false) E := ⟨rfl, .inl rfl⟩
theorem small_1 (s : Bool) (j : Nat) (x : Int) (E : Nat) (h1 : -120 ≤ x + j) (h2 : x + j ≤ 60) (h : (x + j + 129).toNat + 31 ≤ E) : small (pack s (2 ^ j) x false) E := by
  rw [pack_one s j x h1 h2]
  exact ⟨rfl, .inr ⟨_, _, _, rfl, h⟩⟩
theorem shB_1 (b : Nat) : shB b 1 = b * 8388608 := by unfold shB; rw [if_neg (by omega), show (2 : Nat) ^ 1 = 2 from rfl]; omega
theorem shL_1 (b : Nat) : shL b 1 = 0 := by unfold shL; rw [if_neg (by omega), show (2 : Nat) ^ 1 = 2 from rfl, if_neg (by omega)]
theorem near5 (s t : Bool) (a b E : Nat) (a1 : 2147483648 ≤ a) (a2 : a < 4294967296) (b1 : 2147483648 ≤ b) (b2 : b < 4294967296) (e1 : 100 ≤ E) (e2 : E ≤ 159) :
    ∃ q p, div5 (some (s, a, E)) (some (t, b, E)) = (q, 0) ∧ mul5 q (some (t, b, E)) = (p, 0) ∧ small (sub5 p (some (s, a, E))) E := by
  obtain ⟨q, e, q1, q2, hd, hq⟩ := div_near s t a b E a1 a2 b1 b2 (by omega)
  have z1 : 4611686018427387904 ≤ q * b := Nat.le_trans (by decide) (Nat.mul_le_mul q1 b1)
  have z2 : q * b < 18446744073709551616 := Nat.lt_of_lt_of_le (Nat.mul_lt_mul'' q2 b2) (by decide)
  have he : e = 129 ∨ e = 128 := by omega
  obtain ⟨p, n, p1, p2, n1, n2, n3, hp, v1, v2⟩ := mul_near s (q * b) z1 z2 (((e : Int) - 160) + ((E : Int) - 160)) (by omega) (by omega)
  have hm : mul5 (some (!(s == t), q, e)) (some (t, b, E)) = (some (s, p, ((e : Int) - 160 + ((E : Int) - 160) + n + 160).toNat), 0) := by
    unfold mul5
    have hs : (!(sg (some (!(s == t), q, e)) == sg (some (t, b, E)))) = s := by cases s <;> cases t <;> rfl
    rw [hs]
    exact hp
  refine ⟨_, _, hd, hm, ?_⟩
  clear hm hp hd
  -- the distance, in parts of the least bit
  have hn : n = 31 ∨ n = 32 ∨ n = 33 := by omega
  generalize hZ : q * b = Z at *
  clear hZ
  obtain ⟨pe, hpe⟩ : ∃ pe : Nat, pe = ((e : Int) - 160 + ((E : Int) - 160) + n + 160).toNat := ⟨_, rfl⟩
  rw [← hpe]
  unfold sub5 add5
  have m1 : mt (some (s, p, pe)) ≠ 0 := by show p ≠ 0; omega
  have m2 : mt (neg5 (some (s, a, E))) ≠ 0 := by show a ≠ 0; omega
  rw [if_neg m1, if_neg m2]
  show small (if (pe : Int) - 160 < (E : Int) - 160 ∨ ((pe : Int) - 160 = (E : Int) - 160 ∧ p < a) then addC (!s) a ((E : Int) - 160) s p ((pe : Int) - 160) else addC s p ((pe : Int) - 160) (!s) a ((E : Int) - 160)) E
  have hne : s ≠ !s := by cases s <;> decide
  have p31 : (2 : Nat) ^ 31 = 2147483648 := rfl
  have p32 : (2 : Nat) ^ 32 = 4294967296 := rfl
  have p33 : (2 : Nat) ^ 33 = 8589934592 := rfl
  -- same exponents
  have same : pe = E → ∀ (k : p = a ∨ p + 1 = a ∨ p = a + 1), small (if (pe : Int) - 160 < (E : Int) - 160 ∨ ((pe : Int) - 160 = (E : Int) - 160 ∧ p < a) then addC (!s) a ((E : Int) - 160) s p ((pe : Int) - 160) else addC s p ((pe : Int) - 160) (!s) a ((E : Int) - 160)) E := by
    intro h1 h2
    subst h1
    have d0 : ((pe : Int) - 160 - ((pe : Int) - 160)).toNat = 0 := by omega
    by_cases c : p < a
    · rw [if_pos (.inr ⟨rfl, c⟩)]
      unfold addC
      rw [if_neg (Ne.symm hne), d0, shB_0, shL_0]
      have : (a * 16777216 - p * 16777216) * 2 - 0 = 2 ^ 25 := by rw [show (2 : Nat) ^ 25 = 33554432 from rfl]; omega
      rw [this]
      exact small_1 _ 25 _ _ (by omega) (by omega) (by omega)
    · rw [if_neg (by omega)]
      unfold addC
      rw [if_neg hne, d0, shB_0, shL_0]
      by_cases c2 : p = a
      · have : (p * 16777216 - a * 16777216) * 2 - 0 = 0 := by omega
        rw [this]
        exact small_0 _ _ _
      · have : (p * 16777216 - a * 16777216) * 2 - 0 = 2 ^ 25 := by rw [show (2 : Nat) ^ 25 = 33554432 from rfl]; omega
        rw [this]
        exact small_1 _ 25 _ _ (by omega) (by omega) (by omega)
  have more : pe = E + 1 → ∀ (k : 2 * p = a ∨ 2 * p = a + 1), small (if (pe : Int) - 160 < (E : Int) - 160 ∨ ((pe : Int) - 160 = (E : Int) - 160 ∧ p < a) then addC (!s) a ((E : Int) - 160) s p ((pe : Int) - 160) else addC s p ((pe : Int) - 160) (!s) a ((E : Int) - 160)) E := by
    intro h1 h2
    subst h1
    have d1 : (((E + 1 : Nat) : Int) - 160 - ((E : Int) - 160)).toNat = 1 := by omega
    rw [if_neg (by omega)]
    unfold addC
    rw [if_neg hne, d1, shB_1, shL_1]
    rcases h2 with h2 | h2
    · have : (p * 16777216 - a * 8388608) * 2 - 0 = 0 := by omega
      rw [this]
      exact small_0 _ _ _
    · have : (p * 16777216 - a * 8388608) * 2 - 0 = 2 ^ 24 := by rw [show (2 : Nat) ^ 24 = 16777216 from rfl]; omega
      rw [this]
      exact small_1 _ 24 _ _ (by omega) (by omega) (by omega)
  have less : pe + 1 = E → ∀ (k : 2 * a = p + 1), small (if (pe : Int) - 160 < (E : Int) - 160 ∨ ((pe : Int) - 160 = (E : Int) - 160 ∧ p < a) then addC (!s) a ((E : Int) - 160) s p ((pe : Int) - 160) else addC s p ((pe : Int) - 160) (!s) a ((E : Int) - 160)) E := by
    intro h1 h2
    subst h1
    have d1 : (((pe + 1 : Nat) : Int) - 160 - ((pe : Int) - 160)).toNat = 1 := by omega
    rw [if_pos (by omega)]
    unfold addC
    rw [if_neg (Ne.symm hne), d1, shB_1, shL_1]
    have : (a * 16777216 - p * 8388608) * 2 - 0 = 2 ^ 24 := by rw [show (2 : Nat) ^ 24 = 16777216 from rfl]; omega
    rw [this]
    exact small_1 _ 24 _ _ (by omega) (by omega) (by omega)
  rcases hq with ⟨rfl, h1, h2⟩ | ⟨rfl, h1, h2⟩
  · rcases hn with rfl | rfl | rfl
    · exact same (by omega) (by omega)
    · exact more (by omega) (by omega)
    · exfalso; have := n3 rfl; omega
  · rcases hn with rfl | rfl | rfl
    · exact less (by omega) (by omega)
    · exact same (by omega) (by omega)
    · exact more (by omega) (by omega)
end Go.Proofs.Ytbkmkelohlmblaa.D
