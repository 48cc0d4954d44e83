/- A part of a run of a program on a heap of its own, and that the machine does what that run says: no condition but those that each theorem names. -/
import Derived.Test.YtbkmkelohlmblaaDet17
set_option linter.unusedSimpArgs false
set_option linter.unusedVariables false
namespace Go.Det

/-! ### runs without a number of rounds -/
variable {P : Program} {T : XTab}

def CLe (c d : XCall) : Prop := ∀ f args H r, c f args H = some r → d f args H = some r
def SLe (s t : XSelf) : Prop := ∀ c fr H r, s c fr H = some r → t c fr H = some r

theorem xval_mono {c d : XCall} (h : CLe c d) {x : XOper} {fr : Fr} {H : AH} {r : Value × AH} (hx : xval P c x fr H = some r) : xval P d x fr H = some r := by
  unfold xval at *
  cases hw : xwanted fr x.gd with
  | none => simp [hw] at hx
  | some b =>
    cases b
    · simpa [hw] using hx
    · simp only [hw] at hx ⊢
      cases hop : x.op <;> simp only [hop] at hx ⊢ <;> first
        | exact hx
        | skip
      · split at hx
        · exact h _ _ _ _ hx
        · simp at hx
      · split at hx
        · exact h _ _ _ _ hx
        · simp at hx

theorem xops_mono {c d : XCall} (h : CLe c d) : ∀ (xs : List XOper) (fr : Fr) (H : AH) (r : Fr × AH), xops P c xs fr H = some r → xops P d xs fr H = some r
  | [], fr, H, r, hx => hx
  | x :: xs, fr, H, r, hx => by
    simp only [xops] at hx ⊢
    split at hx
    · rename_i v H' hv
      rw [xval_mono h hv]
      exact xops_mono h xs _ _ r hx
    · simp at hx

theorem drun_mono {c d : XCall} (h : CLe c d) : ∀ (ds : List XDop) (t : Nat) (fr : Fr) (H : AH) (hs : List (Nat × AH)) (cs : List (XDop × Fr × Value)) (r : DOut), drun P c t ds fr H hs cs = some r → drun P d t ds fr H hs cs = some r
  | [], t, fr, H, hs, cs, r, hx => hx
  | x :: xs, t, fr, H, hs, cs, r, hx => by
    simp only [drun] at hx ⊢
    split at hx
    · rename_i v H' hv
      rw [xval_mono h hv]
      exact drun_mono h xs _ _ _ _ _ r hx
    · simp at hx

theorem stabOk_mono {c d : XCall} (h : CLe c d) {hs : List (Nat × AH)} {p : XDop × Fr × Value} (hx : stabOk P c hs p = true) : stabOk P d hs p = true := by
  unfold stabOk at *
  refine List.all_eq_true.2 fun t ht => ?_
  have := List.all_eq_true.1 hx t ht
  split at this
  · rename_i H hH
    split at this
    · rename_i r hr
      rw [xval_mono h hr]; exact this
    · simp at this
  · simp at this

theorem xdops_mono {c d : XCall} (h : CLe c d) {ds : List XDop} {fr : Fr} {H : AH} {r : Fr × AH} (hx : xdops P c ds fr H = some r) : xdops P d ds fr H = some r := by
  unfold xdops at *
  split at hx
  · rename_i q hq
    rw [drun_mono h _ _ _ _ _ _ _ hq]
    cases hall : q.cs.all (stabOk P c q.hs)
    · simp [hall] at hx
    · have : q.cs.all (stabOk P d q.hs) = true := List.all_eq_true.2 fun p hp => stabOk_mono h (List.all_eq_true.1 hall p hp)
      simp only [this, cond_true]
      simpa [hall] using hx
  · simp at hx

theorem xcallOf_mono {s t : XSelf} (h : SLe s t) : CLe (xcallOf T s) (xcallOf T t) := by
  intro f args H r hx
  unfold xcallOf at *
  split at hx
  · simp at hx
  · exact hx
  · rename_i body res hT
    cases hb : s body (ofArgs 0 args) H with
    | none => simp [hb] at hx
    | some q => simp only [hb] at hx; simp only [h _ _ _ _ hb]; exact hx

theorem xstep_mono {s t : XSelf} (h : SLe s t) : SLe (xstep P T s) (xstep P T t) := by
  intro c fr H r hx
  have hc := xcallOf_mono (T := T) h
  cases c <;> simp only [xstep] at hx ⊢
  · exact hx
  · split at hx
    · rename_i hv; rw [xops_mono hc _ _ _ _ hv]; exact hx
    · simp at hx
  · split at hx
    · rename_i hv; rw [xdops_mono hc hv]; exact hx
    · simp at hx
  · rename_i a b
    cases hs : s a fr H with
    | none => simp [hs] at hx
    | some q =>
      obtain ⟨e, fr1, H1⟩ := q
      simp only [hs] at hx
      simp only [h _ _ _ _ hs]
      cases e
      · exact h _ _ _ _ hx
      · exact hx
      · exact hx
  · split at hx
    · exact h _ _ _ _ hx
    · exact h _ _ _ _ hx
    · simp at hx
  · rename_i id a
    cases hs : s a fr H with
    | none => simp [hs] at hx
    | some q =>
      simp only [hs] at hx
      simp only [h _ _ _ _ hs]; exact hx
  · rename_i a
    cases hs : s a fr H with
    | none => simp [hs] at hx
    | some q =>
      obtain ⟨e, fr1, H1⟩ := q
      simp only [hs] at hx
      simp only [h _ _ _ _ hs]
      cases e
      · exact h _ _ _ _ hx
      · exact hx
      · exact hx
  · exact hx
  · exact hx

theorem xcode_le_succ : ∀ k, SLe (xcode P T k) (xcode P T (k + 1))
  | 0 => fun c fr H r h => by simp [xcode_zero] at h
  | k + 1 => by rw [xcode_succ, xcode_succ]; exact xstep_mono (xcode_le_succ k)

theorem xcode_le {k j : Nat} (h : k ≤ j) : SLe (xcode P T k) (xcode P T j) := by
  induction h with
  | refl => exact fun _ _ _ _ h => h
  | step _ ih => exact fun c fr H r h => xcode_le_succ _ c fr H r (ih c fr H r h)

open Classical in
/-- the run, with as many rounds as it takes -/
noncomputable def xw (P : Program) (T : XTab) : XSelf := fun c fr H => if h : ∃ k r, xcode P T k c fr H = some r then some h.choose_spec.choose else none

theorem xw_iff {c : XCode} {fr : Fr} {H : AH} {r : XExit × Fr × AH} : xw P T c fr H = some r ↔ ∃ k, xcode P T k c fr H = some r := by
  unfold xw
  constructor
  · intro h
    split at h
    · rename_i hex
      have := hex.choose_spec.choose_spec
      rw [Option.some.inj h] at this
      exact ⟨_, this⟩
    · simp at h
  · rintro ⟨k, hk⟩
    have hex : ∃ k r, xcode P T k c fr H = some r := ⟨k, r, hk⟩
    rw [dif_pos hex]
    have h1 := hex.choose_spec.choose_spec
    have h2 := xcode_le (P := P) (T := T) (Nat.le_max_left hex.choose k) _ _ _ _ h1
    have h3 := xcode_le (P := P) (T := T) (Nat.le_max_right hex.choose k) _ _ _ _ hk
    rw [h2] at h3
    exact h3

/-- calls, with as many rounds as it takes -/
noncomputable def xc (P : Program) (T : XTab) : XCall := xcallOf T (xw P T)

theorem xcode_le_xw (k : Nat) : SLe (xcode P T k) (xw P T) := fun c fr H r h => xw_iff.2 ⟨k, h⟩

theorem xc_iff {f : FuncId} {args : List Value} {H : AH} {r : Value × AH} : xc P T f args H = some r ↔ ∃ k, xcall P T k f args H = some r := by
  constructor
  · intro h
    unfold xc xcallOf at h
    split at h
    · simp at h
    · rename_i g hT
      exact ⟨0, by unfold xcall xcallOf; rw [hT]; exact h⟩
    · rename_i body res hT
      cases hb : xw P T body (ofArgs 0 args) H with
      | none => simp [hb] at h
      | some q =>
        obtain ⟨k, hk⟩ := xw_iff.1 hb
        refine ⟨k, ?_⟩
        unfold xcall xcallOf
        rw [hT]
        simp only [hb] at h
        simp only [hk]; exact h
  · rintro ⟨k, h⟩
    exact xcallOf_mono (xcode_le_xw k) _ _ _ _ h

theorem xcall_le {k j : Nat} (h : k ≤ j) : CLe (xcall P T k) (xcall P T j) := xcallOf_mono (xcode_le h)

theorem xval_lim {x : XOper} {fr : Fr} {H : AH} {r : Value × AH} (hx : xval P (xc P T) x fr H = some r) : ∃ k, xval P (xcall P T k) x fr H = some r := by
  unfold xval at *
  cases hw : xwanted fr x.gd with
  | none => simp [hw] at hx
  | some b =>
    cases b
    · exact ⟨0, by simpa [hw] using hx⟩
    · simp only [hw] at hx ⊢
      cases hop : x.op <;> simp only [hop] at hx ⊢ <;> first
        | exact ⟨0, hx⟩
        | skip
      · split at hx
        · exact xc_iff.1 hx
        · simp at hx
      · split at hx
        · exact xc_iff.1 hx
        · simp at hx

theorem xops_lim : ∀ (xs : List XOper) (fr : Fr) (H : AH) (r : Fr × AH), xops P (xc P T) xs fr H = some r → ∃ k, xops P (xcall P T k) xs fr H = some r
  | [], fr, H, r, hx => ⟨0, hx⟩
  | x :: xs, fr, H, r, hx => by
    simp only [xops] at hx ⊢
    split at hx
    · rename_i v H' hv
      obtain ⟨k1, h1⟩ := xval_lim hv
      obtain ⟨k2, h2⟩ := xops_lim xs _ _ r hx
      refine ⟨max k1 k2, ?_⟩
      rw [xval_mono (xcall_le (Nat.le_max_left k1 k2)) h1]
      exact xops_mono (xcall_le (Nat.le_max_right k1 k2)) _ _ _ _ h2
    · simp at hx

theorem drun_lim : ∀ (ds : List XDop) (t : Nat) (fr : Fr) (H : AH) (hs : List (Nat × AH)) (cs : List (XDop × Fr × Value)) (r : DOut), drun P (xc P T) t ds fr H hs cs = some r → ∃ k, drun P (xcall P T k) t ds fr H hs cs = some r
  | [], t, fr, H, hs, cs, r, hx => ⟨0, hx⟩
  | x :: xs, t, fr, H, hs, cs, r, hx => by
    simp only [drun] at hx ⊢
    split at hx
    · rename_i v H' hv
      obtain ⟨k1, h1⟩ := xval_lim hv
      obtain ⟨k2, h2⟩ := drun_lim xs _ _ _ _ _ r hx
      refine ⟨max k1 k2, ?_⟩
      rw [xval_mono (xcall_le (Nat.le_max_left k1 k2)) h1]
      exact drun_mono (xcall_le (Nat.le_max_right k1 k2)) _ _ _ _ _ _ _ h2
    · simp at hx

theorem all_lim {α : Type} (p : Nat → α → Bool) (q : α → Bool) (hm : ∀ k j a, k ≤ j → p k a = true → p j a = true) (hl : ∀ a, q a = true → ∃ k, p k a = true) : ∀ (l : List α), l.all q = true → ∃ k, l.all (p k) = true
  | [], _ => ⟨0, rfl⟩
  | a :: l, h => by
    simp only [List.all_cons, Bool.and_eq_true] at h
    obtain ⟨k1, h1⟩ := hl a h.1
    obtain ⟨k2, h2⟩ := all_lim p q hm hl l h.2
    refine ⟨max k1 k2, ?_⟩
    simp only [List.all_cons, Bool.and_eq_true]
    exact ⟨hm _ _ a (Nat.le_max_left _ _) h1, List.all_eq_true.2 fun b hb => hm _ _ b (Nat.le_max_right _ _) (List.all_eq_true.1 h2 b hb)⟩

theorem stabOk_lim {hs : List (Nat × AH)} {p : XDop × Fr × Value} (hx : stabOk P (xc P T) hs p = true) : ∃ k, stabOk P (xcall P T k) hs p = true := by
  unfold stabOk at *
  refine all_lim _ _ ?_ ?_ _ hx
  · intro k j t hkj h
    split at h
    · split at h
      · rename_i H hH r hr
        rw [xval_mono (xcall_le hkj) hr]; exact h
      · simp at h
    · simp at h
  · intro t h
    split at h
    · split at h
      · rename_i H hH r hr
        obtain ⟨k, hk⟩ := xval_lim hr
        exact ⟨k, by rw [hk]; exact h⟩
      · simp at h
    · simp at h

theorem xdops_lim {ds : List XDop} {fr : Fr} {H : AH} {r : Fr × AH} (hx : xdops P (xc P T) ds fr H = some r) : ∃ k, xdops P (xcall P T k) ds fr H = some r := by
  unfold xdops at hx
  split at hx
  · rename_i q hq
    cases hall : q.cs.all (stabOk P (xc P T) q.hs)
    · simp [hall] at hx
    · obtain ⟨k1, h1⟩ := drun_lim _ _ _ _ _ _ _ hq
      obtain ⟨k2, h2⟩ := all_lim (fun k => stabOk P (xcall P T k) q.hs) (stabOk P (xc P T) q.hs) (fun k j a hkj h => stabOk_mono (xcall_le hkj) h) (fun a h => stabOk_lim h) _ hall
      refine ⟨max k1 k2, ?_⟩
      unfold xdops
      rw [drun_mono (xcall_le (Nat.le_max_left k1 k2)) _ _ _ _ _ _ _ h1]
      have : q.cs.all (stabOk P (xcall P T (max k1 k2)) q.hs) = true := List.all_eq_true.2 fun p hp => stabOk_mono (xcall_le (Nat.le_max_right k1 k2)) (List.all_eq_true.1 h2 p hp)
      simp only [this, cond_true]
      simpa [hall] using hx
  · simp at hx

/-- THE RUN IS A FIXED POINT OF THE STEP: what is proved about runs is proved with this. -/
theorem xw_step : xw P T = xstep P T (xw P T) := by
  funext c fr H
  have go : ∀ r, xw P T c fr H = some r ↔ xstep P T (xw P T) c fr H = some r := by
    intro r
    constructor
    · intro h
      obtain ⟨k, hk⟩ := xw_iff.1 h
      cases k with
      | zero => simp [xcode_zero] at hk
      | succ k => rw [xcode_succ] at hk; exact xstep_mono (xcode_le_xw k) _ _ _ _ hk
    · intro h
      have fin : (∃ k, xstep P T (xcode P T k) c fr H = some r) → xw P T c fr H = some r := by
        rintro ⟨k, hk⟩
        exact xw_iff.2 ⟨k + 1, by rw [xcode_succ]; exact hk⟩
      have fin2 : ∀ {α : Type} {x : Option α} (k : Nat), True := fun _ => trivial
      refine fin ?_
      cases c <;> simp only [xstep] at h ⊢
      · exact ⟨0, h⟩
      · split at h
        · rename_i hv
          obtain ⟨k, hk⟩ := xops_lim _ _ _ _ hv
          exact ⟨k, by rw [show xcallOf T (xcode P T k) = xcall P T k from rfl, hk]; exact h⟩
        · simp at h
      · split at h
        · rename_i hv
          obtain ⟨k, hk⟩ := xdops_lim hv
          exact ⟨k, by rw [show xcallOf T (xcode P T k) = xcall P T k from rfl, hk]; exact h⟩
        · simp at h
      · rename_i a b
        cases hs : xw P T a fr H with
        | none => simp [hs] at h
        | some q =>
          obtain ⟨e, fr1, H1⟩ := q
          simp only [hs] at h
          obtain ⟨k1, h1⟩ := xw_iff.1 hs
          cases e
          · obtain ⟨k2, h2⟩ := xw_iff.1 h
            refine ⟨max k1 k2, ?_⟩
            rw [xcode_le (Nat.le_max_left k1 k2) _ _ _ _ h1]
            exact xcode_le (Nat.le_max_right k1 k2) _ _ _ _ h2
          · exact ⟨k1, by rw [h1]; exact h⟩
          · exact ⟨k1, by rw [h1]; exact h⟩
      · split at h
        · exact xw_iff.1 h
        · exact xw_iff.1 h
        · simp at h
      · rename_i id a
        cases hs : xw P T a fr H with
        | none => simp [hs] at h
        | some q =>
          simp only [hs] at h
          obtain ⟨k1, h1⟩ := xw_iff.1 hs
          exact ⟨k1, by rw [h1]; exact h⟩
      · rename_i a
        cases hs : xw P T a fr H with
        | none => simp [hs] at h
        | some q =>
          obtain ⟨e, fr1, H1⟩ := q
          simp only [hs] at h
          obtain ⟨k1, h1⟩ := xw_iff.1 hs
          cases e
          · obtain ⟨k2, h2⟩ := xw_iff.1 h
            refine ⟨max k1 k2, ?_⟩
            rw [xcode_le (Nat.le_max_left k1 k2) _ _ _ _ h1]
            exact xcode_le (Nat.le_max_right k1 k2) _ _ _ _ h2
          · exact ⟨k1, by rw [h1]; exact h⟩
          · exact ⟨k1, by rw [h1]; exact h⟩
      · exact ⟨0, h⟩
      · exact ⟨0, h⟩
  cases h1 : xw P T c fr H with
  | some r => exact ((go r).1 h1).symm
  | none =>
    cases h2 : xstep P T (xw P T) c fr H with
    | none => rfl
    | some r => rw [(go r).2 h2] at h1; simp at h1

theorem xc_ok (hm : P.follows .mixedOrders = true) (hT : ∀ f x, T f = some x → FMatch P f x) {f : FuncId} {args : List Value} {H : AH} {v : Value} {H' : AH} (h : xc P T f args H = some (v, H')) : CallOk P f args H v H' := by
  obtain ⟨k, hk⟩ := xc_iff.1 h
  exact xcall_ok hm hT hk

end Go.Det
