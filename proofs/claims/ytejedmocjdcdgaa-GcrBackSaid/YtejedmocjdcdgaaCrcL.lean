/- What functions that the law reaches compute, on a heap of the run's own: the conditions stand in each theorem. -/
import Derived.Test.YtejedmocjdcdgaaCrcB
set_option linter.unusedSimpArgs false
set_option linter.unusedVariables false
namespace Go.Proofs.Ytejedmocjdcdgaa.D
open Go Go.Det
/-! ### the sum is linear over the exclusive or -/
theorem step_bit (x j : Nat) (h : x < 65536) : (crcStep x).testBit j = (decide (j < 16) && ((decide (1 ≤ j) && x.testBit (j - 1)) ^^ (x.testBit 15 && (4129 : Nat).testBit j))) := by
  have hm : (x * 2).testBit j = (decide (1 ≤ j) && x.testBit (j - 1)) := by
    have := Nat.testBit_mul_two_pow x j 1
    simpa using this
  have hx : ∀ i, 16 ≤ i → x.testBit i = false := fun i hi => Nat.testBit_lt_two_pow (Nat.lt_of_lt_of_le (by omega : x < 2 ^ 16) (Nat.pow_le_pow_right (by omega) hi))
  unfold crcStep
  split
  · rename_i hc
    have h15 : x.testBit 15 = true := by
      rw [Nat.testBit_eq_decide_div_mod_eq]; simp; omega
    rw [Nat.testBit_xor, hm, h15]
    rcases Nat.lt_or_ge j 16 with hj | hj
    · have a2 : (69665 : Nat).testBit j = (4129 : Nat).testBit j := by
        have e2 : (69665 : Nat) = 2 ^ 16 * 1 + 4129 := by decide
        rw [e2, Nat.testBit_two_pow_mul_add _ (by omega), if_pos hj]
      rw [a2]; simp [hj]
    · have hn : ¬ j < 16 := by omega
      simp only [hn, decide_false, Bool.false_and]
      rcases Nat.eq_or_lt_of_le hj with e | e
      · subst e; rw [show 16 - 1 = 15 from rfl, h15]; decide
      · rw [hx (j - 1) (by omega)]
        have : (69665 : Nat).testBit j = false := Nat.testBit_lt_two_pow (Nat.lt_of_lt_of_le (by omega : 69665 < 2 ^ 17) (Nat.pow_le_pow_right (by omega) e))
        rw [this]; simp
  · rename_i hc
    have h15 : x.testBit 15 = false := by
      rw [Nat.testBit_eq_decide_div_mod_eq]; simp; omega
    rw [hm, h15]
    rcases Nat.lt_or_ge j 16 with hj | hj
    · simp [hj]
    · have hn : ¬ j < 16 := by omega
      have : x.testBit (j - 1) = false := Nat.testBit_lt_two_pow (Nat.lt_of_lt_of_le (by omega : x < 2 ^ 15) (Nat.pow_le_pow_right (by omega) (by omega)))
      simp [hn, this]
theorem step_xor (a b : Nat) (ha : a < 65536) (hb : b < 65536) : crcStep (a ^^^ b) = crcStep a ^^^ crcStep b := by
  have hab : a ^^^ b < 65536 := Nat.xor_lt_two_pow (n := 16) (by omega) (by omega)
  apply Nat.eq_of_testBit_eq
  intro j
  rw [Nat.testBit_xor (crcStep a), step_bit _ _ hab, step_bit _ _ ha, step_bit _ _ hb, Nat.testBit_xor, Nat.testBit_xor]
  cases decide (j < 16) <;> cases decide (1 ≤ j) <;> cases a.testBit (j - 1) <;> cases b.testBit (j - 1) <;> cases a.testBit 15 <;> cases b.testBit 15 <;> cases (4129 : Nat).testBit j <;> rfl
theorem step_zero (x : Nat) (h : x < 65536) (hz : crcStep x = 0) : x = 0 := by
  have h0 := step_bit x 0 h
  rw [hz] at h0
  have h15 : x.testBit 15 = false := by
    have : (4129 : Nat).testBit 0 = true := by decide
    simpa [this] using h0
  apply Nat.eq_of_testBit_eq
  intro j
  rw [Nat.zero_testBit]
  have h1 := step_bit x (j + 1) h
  rw [hz, h15] at h1
  rcases Nat.lt_or_ge j 15 with hj | hj
  · simpa [show j + 1 < 16 by omega] using h1
  · rcases Nat.eq_or_lt_of_le hj with e | e
    · subst e; exact h15
    · exact Nat.testBit_lt_two_pow (Nat.lt_of_lt_of_le (by omega : x < 2 ^ 16) (Nat.pow_le_pow_right (by omega) (by omega)))
theorem rounds_xor (k : Nat) : ∀ a b, a < 65536 → b < 65536 → crcRounds k (a ^^^ b) = crcRounds k a ^^^ crcRounds k b := by
  induction k with
  | zero => intro a b _ _; rfl
  | succ k ih => intro a b ha hb; simp only [crcRounds]; rw [step_xor a b ha hb, ih _ _ (crcStep_lt a ha) (crcStep_lt b hb)]
theorem rounds_ne (k : Nat) : ∀ a, a < 65536 → a ≠ 0 → crcRounds k a ≠ 0 := by
  induction k with
  | zero => intro a _ h; exact h
  | succ k ih => intro a ha h; exact ih _ (crcStep_lt a ha) (fun e => h (step_zero a ha e))
theorem rounds_zero (k : Nat) : crcRounds k 0 = 0 := by
  induction k with
  | zero => rfl
  | succ k ih => exact ih
theorem rounds_add (a b : Nat) : ∀ x, crcRounds (a + b) x = crcRounds b (crcRounds a x) := by
  induction a with
  | zero => intro x; rw [Nat.zero_add]; rfl
  | succ a ih => intro x; rw [Nat.succ_add]; exact ih _
theorem rounds_pow (k : Nat) : ∀ j, j + k ≤ 15 → crcRounds k (2 ^ j) = 2 ^ (j + k) := by
  induction k with
  | zero => intro j _; rfl
  | succ k ih =>
    intro j hj
    have hp : crcStep (2 ^ j) = 2 ^ (j + 1) := by
      unfold crcStep
      have h1 : 2 ^ j ≤ 2 ^ 14 := Nat.pow_le_pow_right (by omega) (by omega)
      rw [if_neg (by omega), Nat.pow_succ]
    show crcRounds k (crcStep (2 ^ j)) = _
    rw [hp, ih (j + 1) (by omega)]; congr 1; omega
theorem and16 (s : Nat) (h : s < 65536) : s &&& 65535 = s := by
  rw [Nat.and_two_pow_sub_one_eq_mod s 16]; omega
theorem x16 {a b : Nat} (ha : a < 65536) (hb : b < 65536) : a ^^^ b < 65536 := Nat.xor_lt_two_pow (n := 16) (by omega) (by omega)
theorem nx_xor (s t c m : Nat) (hs : s < 65536) (ht : t < 65536) (hc : c < 256) (hm : m < 256) : nx (s ^^^ t) (c ^^^ m) = nx s c ^^^ crcRounds 8 (t ^^^ m * 256) := by
  unfold nx
  rw [and16 _ (x16 hs ht), and16 _ hs, ← rounds_xor 8 _ _ (x16 hs (by omega)) (x16 ht (by omega))]
  congr 1
  have : (c ^^^ m) * 256 = c * 256 ^^^ m * 256 := by
    have := Nat.shiftLeft_xor_distrib (a := c) (b := m) (i := 8)
    simpa [Nat.shiftLeft_eq] using this
  rw [this]
  rw [Nat.xor_assoc, Nat.xor_assoc]; congr 1
  rw [← Nat.xor_assoc, Nat.xor_comm t, Nat.xor_assoc]
theorem crcFold_xor (l : List Int) (hb : B8 l) : ∀ s t, s < 65536 → t < 65536 → crcFold (s ^^^ t) l = crcFold s l ^^^ crcRounds (8 * l.length) t := by
  induction l with
  | nil => intro s t _ _; rfl
  | cons c l ih =>
    intro s t hs ht
    have hc := hb c (by simp)
    have h1 := nx_xor s t c.toNat 0 hs ht (by omega) (by omega)
    simp only [Nat.xor_zero, Nat.zero_mul] at h1
    rw [crcFold_cons, crcFold_cons, h1]
    have h2 := nx_lt s c.toNat (by omega)
    have h3 := rounds_lt 8 t ht
    rw [ih (fun b h => hb b (by simp [h])) _ _ h2 h3, List.length_cons, Nat.mul_succ, Nat.add_comm, rounds_add]
theorem crcFold_set (l : List Int) (hb : B8 l) (m : Nat) (hm : m < 256) : ∀ (q s : Nat), s < 65536 → q < l.length →
    crcFold s (l.set q (((l.getD q 0).toNat ^^^ m : Nat) : Int)) = crcFold s l ^^^ crcRounds (8 * (l.length - q)) (m * 256) := by
  induction l with
  | nil => intro q s _ h; simp at h
  | cons c l ih =>
    intro q s hs hq
    have hc := hb c (by simp)
    have hb' : B8 l := fun b h => hb b (by simp [h])
    have h2 := nx_lt s c.toNat (by omega)
    cases q with
    | zero =>
      simp only [List.set_cons_zero, List.getD_cons_zero, List.length_cons, Nat.sub_zero]
      rw [crcFold_cons, crcFold_cons, Int.toNat_natCast]
      have h1 := nx_xor s 0 c.toNat m hs (by omega) (by omega) hm
      rw [Nat.xor_zero, Nat.zero_xor] at h1
      have h3 := rounds_lt 8 (m * 256) (by omega)
      rw [h1, crcFold_xor l hb' _ _ h2 h3, show 8 * (l.length + 1) = 8 + 8 * l.length by omega, rounds_add]
    | succ q =>
      simp only [List.set_cons_succ, List.getD_cons_succ, List.length_cons, Nat.succ_sub_succ]
      rw [crcFold_cons, crcFold_cons]
      generalize nx s c.toNat = y at h2
      exact ih hb' q y h2 (by simpa using hq)

/-! ### bits -/
def flip (l : List Int) (i : Nat) : List Int := l.set (i / 8) (((l.getD (i / 8) 0).toNat ^^^ (128 >>> (i % 8)) : Nat) : Int)
def flips (l : List Int) (at' ch : Nat) : Nat → List Int
  | 0 => l
  | k + 1 => if ch.testBit k then flip (flips l at' ch k) (at' + k) else flips l at' ch k
def chs (ch : Nat) : Nat → Nat
  | 0 => 0
  | k + 1 => if ch.testBit k then chs ch k ^^^ 2 ^ (15 - k) else chs ch k
def bitAt (l : List Int) (i : Nat) : Bool := (l.getD (i / 8) 0).toNat.testBit (7 - i % 8)
theorem shr128 (r : Nat) (h : r < 8) : 128 >>> r = 2 ^ (7 - r) := by
  revert h; revert r; decide
theorem shr_lt (r : Nat) : 128 >>> r < 256 := by
  rw [Nat.shiftRight_eq_div_pow]
  exact Nat.lt_of_le_of_lt (Nat.div_le_self _ _) (by omega)
theorem flip_len (l : List Int) (i : Nat) : (flip l i).length = l.length := by unfold flip; simp
theorem b8_get (l : List Int) (hb : B8 l) (q : Nat) : 0 ≤ l.getD q 0 ∧ l.getD q 0 < 256 := by
  rw [List.getD_eq_getElem?_getD]
  cases h : l[q]? with
  | none => simp
  | some a => exact hb a (List.mem_of_getElem? h)
theorem b8_set (l : List Int) (hb : B8 l) (q : Nat) (a : Int) (h0 : 0 ≤ a) (h1 : a < 256) : B8 (l.set q a) := by
  intro b h
  rcases List.mem_or_eq_of_mem_set h with h | h
  · exact hb b h
  · subst h; exact ⟨h0, h1⟩
theorem x8 {a b : Nat} (ha : a < 256) (hb : b < 256) : a ^^^ b < 256 := Nat.xor_lt_two_pow (n := 8) (by omega) (by omega)
theorem flip_b8 (l : List Int) (hb : B8 l) (i : Nat) : B8 (flip l i) := by
  have := b8_get l hb (i / 8)
  have h1 := x8 (a := (l.getD (i / 8) 0).toNat) (b := 128 >>> (i % 8)) (by omega) (shr_lt _)
  exact b8_set l hb _ _ (by omega) (by omega)
theorem flips_len (l : List Int) (a ch : Nat) : ∀ k, (flips l a ch k).length = l.length := by
  intro k
  induction k with
  | zero => rfl
  | succ k ih => simp only [flips]; split <;> simp [flip_len, ih]
theorem flips_b8 (l : List Int) (hb : B8 l) (a ch : Nat) : ∀ k, B8 (flips l a ch k) := by
  intro k
  induction k with
  | zero => exact hb
  | succ k ih => simp only [flips]; split; exact flip_b8 _ ih _; exact ih
theorem crc_flip (l : List Int) (hb : B8 l) (a k s : Nat) (hs : s < 65536) (hk : k ≤ 15) (hi : a + k < 8 * l.length) : crcFold s (flip l (a + k)) = crcFold s l ^^^ crcRounds (8 * l.length - a) (2 ^ (15 - k)) := by
  have e3 : 8 * l.length - a = k + (8 * l.length - (a + k)) := by omega
  rw [e3, rounds_add, rounds_pow _ _ (by omega)]
  rw [show 15 - k + k = 15 by omega]
  clear e3
  generalize a + k = i at hi
  have h := crcFold_set l hb (128 >>> (i % 8)) (shr_lt _) (i / 8) s hs (by omega)
  unfold flip
  rw [h, shr128 _ (by omega)]
  clear h
  congr 1
  have e2 : 8 * (l.length - i / 8) = i % 8 + (8 * l.length - i) := by omega
  have e1 : 2 ^ (7 - i % 8) * 256 = 2 ^ (15 - i % 8) := by
    rw [show 256 = 2 ^ 8 from rfl, ← Nat.pow_add]; congr 1; omega
  rw [e1, e2, rounds_add, rounds_pow _ _ (by omega)]
  congr 2; omega
theorem chs_lt (ch : Nat) : ∀ k, chs ch k < 65536 := by
  intro k
  induction k with
  | zero => simp [chs]
  | succ k ih =>
    simp only [chs]; split
    · exact x16 ih (Nat.lt_of_le_of_lt (Nat.pow_le_pow_right (by omega) (by omega : 15 - k ≤ 15)) (by omega))
    · exact ih
theorem chs_bit (ch : Nat) : ∀ k, k ≤ 16 → ∀ j, j ≤ 15 → (chs ch k).testBit (15 - j) = (decide (j < k) && ch.testBit j) := by
  intro k
  induction k with
  | zero => intro _ j _; simp [chs]
  | succ k ih =>
    intro hk j hj
    have := ih (by omega) j hj
    simp only [chs]
    split
    · rename_i hb
      rw [Nat.testBit_xor, this, Nat.testBit_two_pow]
      by_cases e : j = k
      · subst e; simp [hb]
      · have e1 : ¬ (15 - k = 15 - j) := by omega
        have e2 : decide (j < k + 1) = decide (j < k) := by simp; omega
        simp [e1, e2]
    · rename_i hb
      rw [this]
      by_cases e : j = k
      · subst e; simp [hb]
      · have e2 : decide (j < k + 1) = decide (j < k) := by simp; omega
        rw [e2]
theorem chs_ne (ch : Nat) (h0 : ch ≠ 0) (h1 : ch < 65536) : chs ch 16 ≠ 0 := by
  obtain ⟨j, hj⟩ := Nat.exists_testBit_of_ne_zero h0
  have hj16 : j < 16 := by
    rcases Nat.lt_or_ge j 16 with h | h
    · exact h
    · have : ch.testBit j = false := Nat.testBit_lt_two_pow (Nat.lt_of_lt_of_le (by omega : ch < 2 ^ 16) (Nat.pow_le_pow_right (by omega) h))
      rw [this] at hj; cases hj
  intro e
  have := chs_bit ch 16 (by omega) j (by omega)
  rw [e, hj] at this
  simp [hj16] at this
theorem crc_flips (l : List Int) (hb : B8 l) (a ch s : Nat) (hs : s < 65536) (ha : a + 16 ≤ 8 * l.length) : ∀ k, k ≤ 16 → crcFold s (flips l a ch k) = crcFold s l ^^^ crcRounds (8 * l.length - a) (chs ch k) := by
  intro k
  induction k with
  | zero => intro _; simp only [flips, chs]; rw [rounds_zero, Nat.xor_zero]
  | succ k ih =>
    intro hk
    have h := ih (by omega)
    simp only [flips, chs]
    split
    · have hl := flips_len l a ch k
      have h2 := crc_flip (flips l a ch k) (flips_b8 l hb a ch k) a k s hs (by omega) (by omega)
      have h3 : 2 ^ (15 - k) < 65536 := Nat.lt_of_le_of_lt (Nat.pow_le_pow_right (by omega) (by omega : 15 - k ≤ 15)) (by omega)
      rw [h2, h, hl, rounds_xor _ _ _ (chs_lt ch k) h3, Nat.xor_assoc]
    · exact h
theorem bit_flip (l : List Int) (i j : Nat) (hi : i < 8 * l.length) : bitAt (flip l i) j = (bitAt l j ^^ decide (i = j)) := by
  unfold bitAt flip
  by_cases h : i / 8 = j / 8
  · rw [h, List.getD_eq_getElem?_getD, List.getElem?_set_self (by omega), Option.getD_some, Int.toNat_natCast, Nat.testBit_xor, shr128 _ (by omega), Nat.testBit_two_pow]
    congr 1
    apply decide_eq_decide.2
    omega
  · have : ¬ i = j := fun e => h (by rw [e])
    rw [List.getD_eq_getElem?_getD, List.getElem?_set_ne h, ← List.getD_eq_getElem?_getD]
    simp [this]
theorem bit_flips (l : List Int) (a ch j : Nat) (ha : a + 16 ≤ 8 * l.length) : ∀ k, k ≤ 16 → bitAt (flips l a ch k) j = (bitAt l j ^^ (decide (a ≤ j) && decide (j < a + k) && ch.testBit (j - a))) := by
  intro k
  induction k with
  | zero =>
    intro _
    simp only [flips]
    have h2 : (decide (a ≤ j) && decide (j < a + 0)) = false := by
      by_cases h : a ≤ j
      · have : ¬ j < a + 0 := by omega
        simp [this]
      · simp [h]
    rw [h2, Bool.false_and, Bool.xor_false]
  | succ k ih =>
    intro hk
    have h := ih (by omega)
    simp only [flips]
    split
    · rename_i hb
      rw [bit_flip _ _ _ (by rw [flips_len]; omega), h]
      by_cases e : a + k = j
      · subst e; simp [hb]
      · have e2 : decide (j < a + (k + 1)) = decide (j < a + k) := by simp; omega
        simp [e, e2]
    · rename_i hb
      rw [h]
      by_cases e : a + k = j
      · subst e; simp [hb]
      · have e2 : decide (j < a + (k + 1)) = decide (j < a + k) := by simp; omega
        rw [e2]

/-! ### the burst -/
def bf (p : Nat → Bool) : Nat → Int × Int
  | 0 => (-1, -1)
  | n + 1 => if p n then (if (bf p n).1 < 0 then (n : Int) else (bf p n).1, (n : Int)) else bf p n
def bv (p : Nat → Bool) (n : Nat) : Int := if (bf p n).1 < 0 then 0 else (bf p n).2 - (bf p n).1 + 1
theorem bf_range (p : Nat → Bool) (n : Nat) : (bf p n).1 < 0 ∧ (bf p n).1 = -1 ∧ (bf p n).2 = -1 ∨ 0 ≤ (bf p n).1 ∧ (bf p n).1 ≤ (bf p n).2 ∧ (bf p n).2 < (n : Int) := by
  induction n with
  | zero => simp [bf]
  | succ n ih =>
    simp only [bf]
    split
    · split <;> simp only [] <;> omega
    · omega
theorem bf_in (p : Nat → Bool) (a : Nat) (hp : ∀ i, p i = true → a ≤ i ∧ i < a + 16) (n : Nat) : ((bf p n).1 < 0 ∧ ∀ i, i < n → p i = false) ∨ ((a : Int) ≤ (bf p n).1 ∧ (bf p n).1 ≤ (bf p n).2 ∧ (bf p n).2 < (a : Int) + 16) := by
  induction n with
  | zero => left; exact ⟨by simp [bf], fun i hi => by omega⟩
  | succ n ih =>
    simp only [bf]
    by_cases h : p n = true
    · have := hp n h
      right
      simp only [h, if_true]
      have hr := bf_range p n
      split <;> omega
    · simp only [h]
      rcases ih with ⟨h1, h2⟩ | h1
      · left
        refine ⟨by simpa using h1, fun i hi => ?_⟩
        rcases Nat.lt_or_eq_of_le (Nat.le_of_lt_succ hi) with h3 | h3
        · exact h2 i h3
        · subst h3; simpa using h
      · right; simpa using h1
theorem bv_in (p : Nat → Bool) (a n i : Nat) (hp : ∀ i, p i = true → a ≤ i ∧ i < a + 16) (hi : i < n) (hpi : p i = true) : 1 ≤ bv p n ∧ bv p n ≤ 16 := by
  unfold bv
  rcases bf_in p a hp n with ⟨_, h2⟩ | h
  · rw [h2 i hi] at hpi; cases hpi
  · rw [if_neg (by omega)]; omega
theorem crc_found (s : List Int) (hb : B8 s) (a ch : Nat) (h0 : ch ≠ 0) (h1 : ch < 65536) (ha : a + 16 ≤ 8 * s.length) (hz : crcFold 65535 s = 0) : crcFold 65535 (flips s a ch 16) ≠ 0 := by
  rw [crc_flips s hb a ch 65535 (by omega) ha 16 (by omega), hz, Nat.zero_xor]
  exact rounds_ne _ _ (chs_lt _ _) (chs_ne ch h0 h1)
theorem burst_found (s : List Int) (a ch : Nat) (h0 : ch ≠ 0) (h1 : ch < 65536) (ha : a + 16 ≤ 8 * s.length) :
    1 ≤ bv (fun i => bitAt s i ^^ bitAt (flips s a ch 16) i) (8 * s.length) ∧ bv (fun i => bitAt s i ^^ bitAt (flips s a ch 16) i) (8 * s.length) ≤ 16 := by
  obtain ⟨j, hj⟩ := Nat.exists_testBit_of_ne_zero h0
  have hj16 : j < 16 := by
    rcases Nat.lt_or_ge j 16 with h | h
    · exact h
    · have : ch.testBit j = false := Nat.testBit_lt_two_pow (Nat.lt_of_lt_of_le (by omega : ch < 2 ^ 16) (Nat.pow_le_pow_right (by omega) h))
      rw [this] at hj; cases hj
  have e : ∀ i, (bitAt s i ^^ bitAt (flips s a ch 16) i) = (decide (a ≤ i) && decide (i < a + 16) && ch.testBit (i - a)) := by
    intro i
    rw [bit_flips s a ch i ha 16 (by omega), ← Bool.xor_assoc, Bool.xor_self, Bool.false_xor]
  refine bv_in _ a _ (a + j) ?_ (by omega) ?_
  · intro i hi
    rw [e i] at hi
    simp at hi
    omega
  · simp only [e]
    simp [hj16, hj]
theorem burst_comm (s t : List Int) (n : Nat) : bv (fun i => bitAt t i ^^ bitAt s i) n = bv (fun i => bitAt s i ^^ bitAt t i) n := by
  congr 1; funext i; exact Bool.xor_comm _ _
end Go.Proofs.Ytejedmocjdcdgaa.D
