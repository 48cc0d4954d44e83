/- What functions that the law reaches compute, on a heap of the run's own: the conditions stand in each theorem. -/
import Derived.Test.YtkhjmmidaihbhaaWkB
set_option linter.unusedSimpArgs false
set_option linter.unusedVariables false
namespace Go.Proofs.Ytkhjmmidaihbhaa.D
open Go Go.Det

/-! ### what is read is near the base -/
structure WInv (u m : List Int) (i : Nat) (most : Int) : Prop where
  len : m.length = u.length
  same : ∀ j, i ≤ j → m.getD j 0 = u.getD j 0
  pos : 0 < u.length → 1 ≤ m.getD 0 0
  asc : ∀ j, j + 1 < u.length → m.getD j 0 < m.getD (j + 1) 0
  near : ∀ j, u.getD j 0 - most ≤ m.getD j 0 ∧ m.getD j 0 ≤ u.getD j 0 + most
theorem WInv.le {u m : List Int} {i i' : Nat} {most : Int} (h : WInv u m i most) (hi : i ≤ i') : WInv u m i' most := ⟨h.len, fun j hj => h.same j (by omega), h.pos, h.asc, h.near⟩
theorem WInv.step {u m : List Int} {i : Nat} {most d : Int} (h : WInv u m i most) (hi : i < u.length) (hd : -most ≤ d ∧ d ≤ most) (hm : most ≤ 1000) : WInv u (m.set i (wval m i d)) (i + 1) most := by
  have hi' : i < m.length := by have := h.len; omega
  have hb : (wlo m i ≤ m.getD i 0) ∧ (m.getD i 0 ≤ whi m i) := by
    constructor
    · unfold wlo
      split
      · have := h.asc (i - 1) (by omega)
        rw [show i - 1 + 1 = i by omega] at this
        omega
      · have : i = 0 := by omega
        subst this
        exact h.pos hi
    · unfold whi
      rw [h.len]
      split
      · have := h.asc i ‹_›; omega
      · omega
  have hv : wlo m i ≤ wval m i d ∧ wval m i d ≤ whi m i ∧ m.getD i 0 - most ≤ wval m i d ∧ wval m i d ≤ m.getD i 0 + most := by
    unfold wval wclamp
    split <;> split <;> omega
  generalize wval m i d = v at *
  have hs := h.same i (Nat.le_refl _)
  refine ⟨by simp [h.len], fun j hj => ?_, fun hp => ?_, fun j hj => ?_, fun j => ?_⟩
  · rw [getD_set _ _ _ _ hi', if_neg (by omega)]; exact h.same j (by omega)
  · rw [getD_set _ _ _ _ hi']
    split
    · rename_i e; subst e
      have : wlo m 0 = 1 := rfl
      omega
    · exact h.pos hp
  · rw [getD_set _ _ _ _ hi', getD_set _ _ _ _ hi']
    have ha := h.asc j hj
    by_cases c1 : i = j
    · subst c1
      rw [if_pos rfl, if_neg (by omega)]
      have : whi m i = m.getD (i + 1) 0 - 1 := by unfold whi; rw [h.len, if_pos hj]
      omega
    · rw [if_neg c1]
      by_cases c2 : i = j + 1
      · subst c2
        rw [if_pos rfl]
        have : wlo m (j + 1) = m.getD j 0 + 1 := by unfold wlo; rw [if_pos (by omega)]; rfl
        omega
      · rw [if_neg c2]; exact ha
  · rw [getD_set _ _ _ _ hi']
    have hn := h.near j
    by_cases c1 : i = j
    · subst c1; rw [if_pos rfl]; omega
    · rw [if_neg c1]; exact hn
theorem wspan_inv (u : List Int) (b : Nat) (most : Int) (hb : (b : Int) ≤ most) (hm : most ≤ 1000) (k : Nat) : ∀ i x m, WInv u m i most → i + k ≤ u.length → WInv u (wspan b k i x m).2 (i + k) most ∧ ∀ j, ¬ (i ≤ j ∧ j < i + k) → (wspan b k i x m).2.getD j 0 = m.getD j 0 := by
  induction k with
  | zero => intro i x m h hk; exact ⟨h, fun _ _ => rfl⟩
  | succ k ih =>
    intro i x m h hk
    unfold wspan
    have hd := wby_bd (nxt x) b
    obtain ⟨a1, a2⟩ := ih (i + 1) (nxt x) _ (h.step (d := wby (nxt x) b) (by omega) (by omega) hm) (by omega)
    refine ⟨by rw [show i + (k + 1) = i + 1 + k by omega]; exact a1, fun j hj => ?_⟩
    rw [a2 j (by omega), getD_set _ _ _ _ (by have := h.len; omega), if_neg (by omega)]
theorem wread_inv (u : List Int) (most : Int) (hm : most ≤ 1000) (l : List Spn) : ∀ a x m, WInv u m a most → SpAsc a l → SpOk u.length l → (∀ s ∈ l, (s.2.2 : Int) ≤ most) →
    (∃ i, WInv u (wread l x m).2 i most) ∧ ∀ j, l.any (inSp j) = false → (wread l x m).2.getD j 0 = m.getD j 0 := by
  induction l with
  | nil => intro a x m h _ _ _; exact ⟨⟨a, h⟩, fun _ _ => rfl⟩
  | cons s l ih =>
    intro a x m h ha hok hb
    obtain ⟨h1, h2⟩ := ha
    obtain ⟨s1, s2, s3⟩ := hok s (by simp)
    unfold wread
    obtain ⟨a1, a2⟩ := wspan_inv u s.2.2 most (hb s (by simp)) hm (s.2.1 - s.1) s.1 x m (h.le h1) (by omega)
    rw [show s.1 + (s.2.1 - s.1) = s.2.1 by omega] at a1 a2
    obtain ⟨b1, b2⟩ := ih s.2.1 (wspan s.2.2 (s.2.1 - s.1) s.1 x m).1 _ a1 h2 (fun y hy => hok y (by simp [hy])) (fun y hy => hb y (by simp [hy]))
    refine ⟨b1, fun j hj => ?_⟩
    simp only [List.any_cons, Bool.or_eq_false_iff] at hj
    rw [b2 j hj.2, a2 j ?_]
    have := hj.1
    unfold inSp at this
    simp at this
    omega
theorem difs_getD (m : List Int) : ∀ (a : Int) (j : Nat), j < m.length → (difs a m).getD j 0 = m.getD j 0 - (if j = 0 then a else m.getD (j - 1) 0) := by
  induction m with
  | nil => intro a j h; simp at h
  | cons x m ih =>
    intro a j h
    cases j with
    | zero => rfl
    | succ j =>
      show (difs x m).getD j 0 = _
      rw [ih x j (by simpa using h)]
      cases j <;> rfl
theorem ok_of (l : List Int) (h : ∀ j, j < l.length → 1 ≤ l.getD j 0 ∧ l.getD j 0 ≤ 100000) : Ok l := by
  intro p hp
  obtain ⟨j, hj, rfl⟩ := List.getElem_of_mem hp
  have := h j hj
  rwa [List.getD_eq_getElem?_getD, List.getElem?_eq_getElem hj, Option.getD_some] at this
/-- the base of the law, read with weak places -/
theorem weak_near (t : List Int) (ht : ∀ p ∈ t, 8 ≤ p ∧ p ≤ 307) (most : Int) (h0 : 0 ≤ most) (hm : most ≤ 40) (l : List Spn) (x : Nat) (ha : SpAsc 0 l) (hok : SpOk t.length l) (hb : ∀ s ∈ l, (s.2.2 : Int) ≤ most) :
    Ok (difs 0 (wread l x (sums 0 t)).2) ∧ (∀ j, (sums 0 t).getD j 0 - most ≤ (wread l x (sums 0 t)).2.getD j 0 ∧ (wread l x (sums 0 t)).2.getD j 0 ≤ (sums 0 t).getD j 0 + most) ∧
      ∀ j, l.any (inSp j) = false → (wread l x (sums 0 t)).2.getD j 0 = (sums 0 t).getD j 0 := by
  have hl := sums_len t 0
  have hd : ∀ j, j < t.length → 8 ≤ (sums 0 t).getD j 0 - (if j = 0 then 0 else (sums 0 t).getD (j - 1) 0) ∧ (sums 0 t).getD j 0 - (if j = 0 then 0 else (sums 0 t).getD (j - 1) 0) ≤ 307 := by
    intro j hj
    rw [← difs_getD (sums 0 t) 0 j (by omega), difs_sums]
    have := ht _ (List.getElem_mem hj)
    rwa [List.getD_eq_getElem?_getD, List.getElem?_eq_getElem hj, Option.getD_some]
  have w0 : WInv (sums 0 t) (sums 0 t) 0 most := by
    refine ⟨rfl, fun _ _ => rfl, fun hp => ?_, fun j hj => ?_, fun j => by omega⟩
    · have := hd 0 (by omega); rw [if_pos rfl] at this; omega
    · have := hd (j + 1) (by omega)
      rw [if_neg (by omega)] at this
      have e : j + 1 - 1 = j := by omega
      rw [e] at this
      omega
  obtain ⟨⟨i, hw⟩, hs⟩ := wread_inv (sums 0 t) most (by omega) l 0 x (sums 0 t) w0 ha (by rw [hl]; exact hok) hb
  refine ⟨ok_of _ fun j hj => ?_, hw.near, hs⟩
  rw [difs_len, hw.len] at hj
  rw [difs_getD _ _ _ (by rw [hw.len]; exact hj)]
  have h1 := hd j (by omega)
  have h2 := hw.near j
  by_cases c : j = 0
  · subst c
    have := hw.pos (by omega)
    rw [if_pos rfl] at h1 ⊢
    omega
  · rw [if_neg c] at h1 ⊢
    have h3 := hw.near (j - 1)
    have h4 := hw.asc (j - 1) (by omega)
    rw [show j - 1 + 1 = j by omega] at h4
    omega
end Go.Proofs.Ytkhjmmidaihbhaa.D
