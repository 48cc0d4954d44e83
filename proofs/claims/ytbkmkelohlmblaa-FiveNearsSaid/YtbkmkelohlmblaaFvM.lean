/- What functions that the law reaches compute, on a heap of the run's own: the conditions stand in each theorem. -/
import Derived.Test.YtbkmkelohlmblaaFvJ
set_option linter.unusedSimpArgs false
set_option linter.unusedVariables false
namespace Go.Proofs.Ytbkmkelohlmblaa.D
open Go Go.Det

/-! ### what is exact -/
theorem bl_mul (k j : Nat) (h : k ≠ 0) : bl (k * 2 ^ j) = bl k + j := by
  have hp := Nat.pow_pos (n := j) (by omega : 0 < 2)
  have := bl_shr (k * 2 ^ j) j (by have := Nat.mul_le_mul_right (2 ^ j) (by omega : 1 ≤ k); omega)
  rw [Nat.mul_div_cancel _ hp] at this
  exact this
theorem shl_lt (k a : Nat) (h : k < 2 ^ a) (j : Nat) : k * 2 ^ j < 2 ^ (a + j) := by
  rw [Nat.pow_add]; exact Nat.mul_lt_mul_of_pos_right h (Nat.pow_pos (by omega))
theorem pkm_exact (k j : Nat) (h0 : k ≠ 0) (hk : bl k ≤ 32) (more : Bool) (hm : more = false) : pkm (k * 2 ^ j) more = (k * 2 ^ (32 - bl k), (bl k : Int) + j - 32) := by
  have hb := bl_mul k j h0
  have hlow := low32 k h0 hk
  unfold pkm
  rw [hb]
  by_cases h : bl k + j ≤ 32
  · rw [if_pos h, Nat.mul_assoc, ← Nat.pow_add, show j + (32 - (bl k + j)) = 32 - bl k by omega]
    congr 1
  · rw [if_neg h]
    have e : j = (32 - bl k) + (bl k + j - 32) := by omega
    have hdv : k * 2 ^ j = k * 2 ^ (32 - bl k) * 2 ^ (bl k + j - 32) := by
      rw [Nat.mul_assoc, ← Nat.pow_add, ← e]
    have hp := Nat.pow_pos (n := bl k + j - 32) (by omega : 0 < 2)
    have hp2 := Nat.pow_pos (n := bl k + j - 32 - 1) (by omega : 0 < 2)
    have hr : rnd (k * 2 ^ j) (bl k + j - 32) more = k * 2 ^ (32 - bl k) := by
      unfold rnd
      rw [hdv, Nat.mul_mod_left, Nat.mul_div_cancel _ hp, if_neg (by omega)]
    rw [hr, if_neg (by omega)]
    congr 1
/-- a whole number with a sign -/
def I5 (s : Bool) (k : Nat) : F5 := if k = 0 then none else some (s, k * 2 ^ (32 - bl k), 128 + bl k)
theorem pack_int (s : Bool) (k j : Nat) (hk : k < 4294967296) : pack s (k * 2 ^ j) (-(j : Int)) false = (I5 s k, 0) := by
  unfold pack I5
  by_cases h0 : k = 0
  · subst h0; rw [Nat.zero_mul, if_pos rfl, if_pos rfl]
  have hb := bl_mono (k := 32) (x := k) (by omega)
  have hp := Nat.pow_pos (n := j) (by omega : 0 < 2)
  have hz : k * 2 ^ j ≠ 0 := by have := Nat.mul_le_mul_right (2 ^ j) (by omega : 1 ≤ k); omega
  rw [if_neg hz, if_neg h0, pkm_exact k j h0 hb false rfl]
  unfold fin5
  have := bl_pos k h0
  rw [if_neg (by show ¬ (-(j : Int) + ((bl k : Int) + j - 32) + 160 > 255); omega), if_neg (by show ¬ (-(j : Int) + ((bl k : Int) + j - 32) + 160 < 1); omega)]
  have e : (-(j : Int) + ((bl k : Int) + j - 32) + 160).toNat = 128 + bl k := by omega
  show (some (s, k * 2 ^ (32 - bl k), (-(j : Int) + ((bl k : Int) + j - 32) + 160).toNat), (0 : Int)) = _
  rw [e]
theorem I5_ok (s : Bool) (k : Nat) (hk : k < 4294967296) : Ok5 (I5 s k) := by
  unfold I5
  split
  · trivial
  · have := low32 k ‹_› (bl_mono (by omega))
    have h3 := bl_mono (k := 32) (x := k) (by omega)
    exact ⟨this.1, this.2, by omega, by omega⟩
theorem I5_mt (s : Bool) (k : Nat) (h : k ≠ 0) : mt (I5 s k) = k * 2 ^ (32 - bl k) := by unfold I5; rw [if_neg h]; rfl
theorem I5_xp (s : Bool) (k : Nat) (h : k ≠ 0) : xp (I5 s k) = (bl k : Int) - 32 := by unfold I5; rw [if_neg h]; show ((128 + bl k : Nat) : Int) - 160 = _; omega
theorem I5_sg (s : Bool) (k : Nat) (h : k ≠ 0) : sg (I5 s k) = s := by unfold I5; rw [if_neg h]; rfl
theorem I5_0 (s : Bool) : I5 s 0 = none := rfl
theorem of_int (n : Int) (h1 : -4294967296 < n) (h2 : n < 4294967296) : pack (decide (n < 0)) n.natAbs 0 false = (I5 (decide (n < 0)) n.natAbs, 0) := by
  have := pack_int (decide (n < 0)) n.natAbs 0 (by omega)
  rw [Nat.pow_zero, Nat.mul_one] at this
  exact this
/-- with its sign -/
def sI (s : Bool) (k : Nat) : Int := if s then -(k : Int) else (k : Int)
theorem int5_int (s : Bool) (k : Nat) (hk : k < 4294967296) : int5 (I5 s k) = (sI s k, 0) := by
  by_cases h0 : k = 0
  · subst h0; cases s <;> rfl
  have hb := bl_mono (k := 32) (x := k) (by omega)
  have hp := Nat.pow_pos (n := 32 - bl k) (by omega : 0 < 2)
  have h3 := bl_pos k h0
  have hx := I5_xp s k h0
  have e1 : int5n (I5 s k) = k := by
    unfold int5n
    by_cases h : 0 ≤ xp (I5 s k)
    · rw [if_pos h, I5_mt s k h0]
      have : bl k = 32 := by omega
      have e2 : (xp (I5 s k)).toNat = 0 := by omega
      rw [e2, this]; simp
    · rw [if_neg h, if_pos (by omega), I5_mt s k h0]
      have e2 : (-(xp (I5 s k))).toNat = 32 - bl k := by omega
      rw [e2, Nat.mul_div_cancel _ hp]
  have e2 : int5r (I5 s k) = 0 := by
    unfold int5r
    by_cases h : 0 ≤ xp (I5 s k)
    · rw [if_pos h]
    · rw [if_neg h, if_pos (by omega), I5_mt s k h0]
      have e2 : (-(xp (I5 s k))).toNat = 32 - bl k := by omega
      rw [e2, Nat.mul_mod_left, if_neg (by omega)]
  unfold int5 sI
  rw [if_neg (by omega), e1, e2, I5_sg s k h0]
  cases s <;> rfl

/-! ### sums -/
theorem shB_0 (b : Nat) : shB b 0 = b * 16777216 := by unfold shB; rw [if_neg (by omega), Nat.pow_zero, Nat.div_one]
theorem shL_0 (b : Nat) : shL b 0 = 0 := by unfold shL; rw [if_neg (by omega), Nat.pow_zero, Nat.mod_one, if_neg (by omega)]
theorem mt0 (f : F5) (hf : Ok5 f) (h : mt f = 0) : f = none := by
  cases f with
  | none => rfl
  | some p => have := hf.1; simp only [mt] at h; omega
theorem add_comm5 (f g : F5) (hf : Ok5 f) (hg : Ok5 g) : add5 f g = add5 g f := by
  unfold add5
  by_cases h1 : mt f = 0
  · by_cases h2 : mt g = 0
    · rw [if_pos h1, if_pos h2, mt0 f hf h1, mt0 g hg h2]
    · rw [if_pos h1, if_neg h2, if_pos h1]
  by_cases h2 : mt g = 0
  · rw [if_neg h1, if_pos h2, if_pos h2]
  rw [if_neg h1, if_neg h2, if_neg h2, if_neg h1]
  by_cases c : xp f < xp g ∨ (xp f = xp g ∧ mt f < mt g)
  · rw [if_pos c, if_neg (by omega)]
  · rw [if_neg c]
    by_cases d : xp g < xp f ∨ (xp g = xp f ∧ mt g < mt f)
    · rw [if_pos d]
    · rw [if_neg d]
      have ex : xp f = xp g := by omega
      have em : mt f = mt g := by omega
      unfold addC
      have ed : (xp f - xp g).toNat = 0 := by omega
      have ed2 : (xp g - xp f).toNat = 0 := by omega
      rw [ed, ed2, shB_0, shL_0, shB_0, shL_0, ex, em]
      by_cases hs : sg f = sg g
      · rw [if_pos hs, if_pos hs.symm, hs]
      · rw [if_neg hs, if_neg (fun h => hs h.symm), Nat.sub_self, Nat.zero_mul, Nat.zero_sub]
        rfl
theorem sg_neg (g : F5) (h : mt g ≠ 0) : sg (neg5 g) = !sg g := by
  cases g with
  | none => exact absurd rfl h
  | some p => rfl
theorem mt_neg (g : F5) : mt (neg5 g) = mt g := by cases g <;> rfl
theorem xp_neg (g : F5) : xp (neg5 g) = xp g := by cases g <;> rfl
theorem rk_eq (f : F5) (hf : Ok5 f) (h : mt f ≠ 0) : rk f = if sg f then -1 else 1 := by
  cases f with
  | none => exact absurd rfl h
  | some p => rfl
theorem rk_0 (f : F5) (hf : Ok5 f) (h : mt f = 0) : rk f = 0 := by rw [mt0 f hf h]; rfl
theorem rk_neg (g : F5) : rk (neg5 g) = -(rk g) := by
  cases g with
  | none => rfl
  | some p => obtain ⟨s, m, e⟩ := p; cases s <;> rfl
theorem sub_self5 (f : F5) (hf : Ok5 f) : sub5 f f = (none, 0) := by
  unfold sub5 add5
  rw [mt_neg, xp_neg]
  by_cases h : mt f = 0
  · rw [if_pos h, mt0 f hf h]; rfl
  · rw [if_neg h, if_neg h, if_neg (by omega)]
    unfold addC
    have ed : (xp f - xp f).toNat = 0 := by omega
    rw [ed, shB_0, shL_0, sg_neg f h, if_neg (by cases sg f <;> decide), Nat.sub_self, Nat.zero_mul, Nat.zero_sub]
    rfl
/-- a sum that is not 0 and not too great or small -/
theorem pack_nz (s : Bool) (m : Nat) (hm : m < 18446744073709551616) (h0 : m ≠ 0) (exp : Int) (h1 : -120 ≤ exp) (h2 : exp ≤ 60) : ∃ q e, 2147483648 ≤ q ∧ pack s m exp false = (some (s, q, e), 0) := by
  have h3 := bl_pos m h0
  have h4 : bl m ≤ 64 := bl_mono (by omega)
  have h5 : -32 ≤ (pkm m false).2 ∧ (pkm m false).2 ≤ 33 := by
    unfold pkm; split
    · simp only []; omega
    · split <;> simp only [] <;> omega
  have ho := pkm_ok m h0 false
  refine ⟨(pkm m false).1, (exp + (pkm m false).2 + 160).toNat, ho.1, ?_⟩
  unfold pack fin5
  rw [if_neg h0, if_neg (by omega), if_neg (by omega)]
theorem addC_nz (s t : Bool) (a b : Nat) (x y : Int) (a1 : 2147483648 ≤ a) (a2 : a < 4294967296) (b2 : b < 4294967296) (hd : y ≤ x) (h0 : x = y → b ≤ a) (hx : -90 ≤ x) (hx2 : x ≤ 80) (hz : ¬ (x = y ∧ a = b ∧ s ≠ t)) :
    ∃ q e, 2147483648 ≤ q ∧ addC s a x t b y = (some (s, q, e), 0) := by
  have h1 := shB_le a b (x - y).toNat a1 b2 (fun h => h0 (by omega))
  have h2 := shL_le b (x - y).toNat
  unfold addC
  by_cases hs : s = t
  · rw [if_pos hs]
    exact pack_nz s _ (by omega) (by omega) _ (by omega) (by omega)
  · rw [if_neg hs]
    refine pack_nz s _ (by omega) ?_ _ (by omega) (by omega)
    rcases Nat.lt_or_ge (shL b (x - y).toNat) 1 with h | h
    · by_cases hxy : x = y
      · have : (x - y).toNat = 0 := by omega
        rw [this, shB_0]
        rw [this] at h
        have hab : b < a := by
          have := h0 hxy
          rcases Nat.lt_or_ge b a with h | h
          · exact h
          · exact absurd ⟨hxy, by omega, hs⟩ hz
        omega
      · have hlt : shB b (x - y).toNat < a * 16777216 := by
          unfold shB
          split
          · omega
          · obtain ⟨k, hk⟩ : ∃ k, (x - y).toNat = k + 1 := ⟨(x - y).toNat - 1, by omega⟩
            rw [hk]
            have : b * 16777216 / 2 ^ (k + 1) ≤ b * 16777216 / 2 := by
              rw [Nat.pow_succ, Nat.mul_comm (2 ^ k) 2, ← Nat.div_div_eq_div_mul]
              exact Nat.div_le_self _ _
            omega
        omega
    · have := h1.2 (by omega); omega
theorem rk_some (s : Bool) (q e : Nat) : rk (some (s, q, e)) = if s then -1 else 1 := rfl
/-- a difference has the sign of the comparison, and no error -/
theorem sub_sign (f g : F5) (hf : Ok5 f) (hg : Ok5 g) (xf : mt f ≠ 0 → -60 ≤ xp f ∧ xp f ≤ -1) (xg : mt g ≠ 0 → -60 ≤ xp g ∧ xp g ≤ -1) : (sub5 f g).2 = 0 ∧ rk (sub5 f g).1 = cmp5 f g := by
  unfold sub5 add5
  rw [mt_neg, xp_neg]
  by_cases h1 : mt f = 0
  · rw [if_pos h1]
    refine ⟨rfl, ?_⟩
    show rk (neg5 g) = _
    rw [rk_neg]
    unfold cmp5
    rw [rk_0 f hf h1]
    by_cases h2 : mt g = 0
    · rw [rk_0 g hg h2, mt0 f hf h1, mt0 g hg h2]; rfl
    · rw [rk_eq g hg h2]
      cases sg g <;> simp
  rw [if_neg h1]
  have r1 := rk_eq f hf h1
  by_cases h2 : mt g = 0
  · rw [if_pos h2]
    refine ⟨rfl, ?_⟩
    show rk f = _
    unfold cmp5
    rw [rk_0 g hg h2, r1]
    cases sg f <;> simp
  rw [if_neg h2]
  have r2 := rk_eq g hg h2
  have m1 := mt_lt f hf
  have m2 := mt_lt g hg
  have g1 := mt_ge f hf h1
  have g2 := mt_ge g hg h2
  obtain ⟨xf1, xf2⟩ := xf h1
  obtain ⟨xg1, xg2⟩ := xg h2
  rw [sg_neg g h2]
  by_cases c : xp f < xp g ∨ (xp f = xp g ∧ mt f < mt g)
  · rw [if_pos c]
    obtain ⟨q, e, _, hq⟩ := addC_nz (!sg g) (sg f) (mt g) (mt f) (xp g) (xp f) g2 m2 m1 (by omega) (by omega) (by omega) (by omega) (by omega)
    rw [hq]
    refine ⟨rfl, ?_⟩
    rw [rk_some]
    unfold cmp5
    rw [r1, r2]
    have nc : ¬ (xp f = xp g ∧ mt f = mt g) := by omega
    rw [if_neg nc, if_pos c]
    cases sg f <;> cases sg g <;> simp
  · rw [if_neg c]
    by_cases d : xp f = xp g ∧ mt f = mt g
    · by_cases hs : sg f = sg g
      · have e : addC (sg f) (mt f) (xp f) (!sg g) (mt g) (xp g) = (none, 0) := by
          unfold addC
          have ed : (xp f - xp g).toNat = 0 := by omega
          rw [ed, shB_0, shL_0, hs, if_neg (by cases sg g <;> decide), d.2, Nat.sub_self, Nat.zero_mul, Nat.zero_sub]
          rfl
        rw [e]
        refine ⟨rfl, ?_⟩
        unfold cmp5
        rw [r1, r2, hs, if_neg (by simp), if_pos d]
        rfl
      · obtain ⟨q, e, _, hq⟩ := addC_nz (sg f) (!sg g) (mt f) (mt g) (xp f) (xp g) g1 m1 m2 (by omega) (by omega) (by omega) (by omega) (fun h => h.2.2 (by revert hs; cases sg f <;> cases sg g <;> decide))
        rw [hq]
        refine ⟨rfl, ?_⟩
        rw [rk_some]
        unfold cmp5
        rw [r1, r2]
        revert hs
        cases sg f <;> cases sg g <;> simp
    · obtain ⟨q, e, _, hq⟩ := addC_nz (sg f) (!sg g) (mt f) (mt g) (xp f) (xp g) g1 m1 m2 (by omega) (by omega) (by omega) (by omega) (fun h => d ⟨h.1, h.2.1⟩)
      rw [hq]
      refine ⟨rfl, ?_⟩
      rw [rk_some]
      unfold cmp5
      rw [r1, r2, if_neg d, if_neg c]
      cases sg f <;> cases sg g <;> simp
theorem add_err (f g : F5) (hf : Ok5 f) (hg : Ok5 g) (xf : mt f ≠ 0 → -60 ≤ xp f ∧ xp f ≤ -1) (xg : mt g ≠ 0 → -60 ≤ xp g ∧ xp g ≤ -1) : (add5 f g).2 = 0 := by
  have nn : neg5 (neg5 g) = g := by
    cases g with
    | none => rfl
    | some p => obtain ⟨s, m, e⟩ := p; simp [neg5]
  have := (sub_sign f (neg5 g) hf (neg5_ok g hg) xf (by rw [mt_neg, xp_neg]; exact xg)).1
  unfold sub5 at this
  rw [nn] at this
  exact this

/-- the difference of whole numbers -/
theorem sub_aux (n m : Nat) (hn : n < 1073741824) (hm : m < 1073741824) (h0 : m ≠ 0) (hlt : m ≤ n) (s : Bool) : addC s (n * 2 ^ (32 - bl n)) ((bl n : Int) - 32) (!s) (m * 2 ^ (32 - bl m)) ((bl m : Int) - 32) = (I5 s (n - m), 0) := by
  have hn0 : n ≠ 0 := by omega
  have b1 := bl_mono (k := 30) (x := n) (by omega)
  have b2 := bl_pos m h0
  have b3 : bl m ≤ bl n := bl_mono (Nat.lt_of_le_of_lt hlt (bl_lt n))
  unfold addC
  have ed : ((bl n : Int) - 32 - ((bl m : Int) - 32)).toNat = bl n - bl m := by omega
  rw [ed, if_neg (by cases s <;> decide)]
  have e24 : (16777216 : Nat) = 2 ^ 24 := rfl
  have em : m * 2 ^ (32 - bl m) * 16777216 = m * 2 ^ (56 - bl n) * 2 ^ (bl n - bl m) := by
    rw [e24, Nat.mul_assoc, ← Nat.pow_add, Nat.mul_assoc, ← Nat.pow_add]; congr 2; omega
  have en : n * 2 ^ (32 - bl n) * 16777216 = n * 2 ^ (56 - bl n) := by
    rw [e24, Nat.mul_assoc, ← Nat.pow_add]; congr 2; omega
  have hp := Nat.pow_pos (n := bl n - bl m) (by omega : 0 < 2)
  have eB : shB (m * 2 ^ (32 - bl m)) (bl n - bl m) = m * 2 ^ (56 - bl n) := by
    unfold shB; rw [if_neg (by omega), em, Nat.mul_div_cancel _ hp]
  have eL : shL (m * 2 ^ (32 - bl m)) (bl n - bl m) = 0 := by
    unfold shL; rw [if_neg (by omega), em, Nat.mul_mod_left, if_neg (by omega)]
  rw [eB, eL, en, Nat.sub_zero, ← Nat.sub_mul, Nat.mul_assoc, show 2 ^ (56 - bl n) * 2 = 2 ^ (57 - bl n) by rw [← Nat.pow_succ]; congr 1; omega]
  have := pack_int s (n - m) (57 - bl n) (by omega)
  rw [← this]
  congr 1
  omega
theorem I5_lt (s t : Bool) (n m : Nat) (hn : n < 4294967296) (hm : m < 4294967296) (h1 : n ≠ 0) (h2 : m ≠ 0) : (xp (I5 s n) < xp (I5 t m) ∨ (xp (I5 s n) = xp (I5 t m) ∧ mt (I5 s n) < mt (I5 t m))) ↔ n < m := by
  rw [I5_xp s n h1, I5_xp t m h2, I5_mt s n h1, I5_mt t m h2]
  have a1 := bl_lt n
  have a2 := bl_le n h1
  have c1 := bl_lt m
  have c2 := bl_le m h2
  constructor
  · intro h
    rcases h with h | ⟨h, k⟩
    · have : bl n ≤ bl m - 1 := by omega
      have := Nat.pow_le_pow_right (n := 2) (by omega) this
      omega
    · have : bl n = bl m := by omega
      rw [this] at k
      exact Nat.lt_of_mul_lt_mul_right k
  · intro h
    by_cases e : bl n = bl m
    · right
      rw [e]
      exact ⟨rfl, Nat.mul_lt_mul_of_pos_right h (Nat.pow_pos (by omega))⟩
    · left
      have : bl n ≤ bl m := bl_mono (Nat.lt_trans h c1)
      omega
theorem sub_ints (n m : Nat) (hn : n < 1073741824) (hm : m < 1073741824) : sub5 (I5 false n) (I5 false m) = (I5 (decide (n < m)) (if n < m then m - n else n - m), 0) := by
  unfold sub5
  by_cases h1 : n = 0
  · subst h1
    unfold add5
    rw [if_pos (by rfl)]
    by_cases h2 : m = 0
    · subst h2; rfl
    · rw [decide_eq_true (by omega : 0 < m), if_pos (by omega : 0 < m), Nat.sub_zero]
      unfold I5
      rw [if_neg h2, if_neg h2]
      rfl
  by_cases h2 : m = 0
  · subst h2
    rw [decide_eq_false (by omega : ¬ n < 0), if_neg (by omega : ¬ n < 0), Nat.sub_zero]
    unfold add5
    have : mt (I5 false n) ≠ 0 := by
      have := low32 n h1 (bl_mono (by omega)); rw [I5_mt false n h1]; omega
    rw [if_neg this, if_pos (by rfl)]
  have ng : neg5 (I5 false m) = I5 true m := by unfold I5; rw [if_neg h2, if_neg h2]; rfl
  rw [ng]
  unfold add5
  have t1 : mt (I5 false n) ≠ 0 := by have := low32 n h1 (bl_mono (by omega)); rw [I5_mt false n h1]; omega
  have t2 : mt (I5 true m) ≠ 0 := by have := low32 m h2 (bl_mono (by omega)); rw [I5_mt true m h2]; omega
  rw [if_neg t1, if_neg t2]
  have hiff := I5_lt false true n m (by omega) (by omega) h1 h2
  by_cases hlt : n < m
  · rw [if_pos (hiff.2 hlt), decide_eq_true hlt, if_pos hlt, I5_xp true m h2, I5_xp false n h1, I5_mt true m h2, I5_mt false n h1, I5_sg true m h2, I5_sg false n h1]
    exact sub_aux m n hm hn h1 (by omega) true
  · rw [if_neg (fun h => hlt (hiff.1 h)), decide_eq_false hlt, if_neg hlt, I5_xp true m h2, I5_xp false n h1, I5_mt true m h2, I5_mt false n h1, I5_sg true m h2, I5_sg false n h1]
    exact sub_aux n m hn hm h2 (by omega) false
end Go.Proofs.Ytbkmkelohlmblaa.D
