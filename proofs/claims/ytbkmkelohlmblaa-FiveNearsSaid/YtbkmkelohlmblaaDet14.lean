/- A part of a run of a program on a heap of its own, and that the machine does what that run says: no condition but those that each theorem names. -/
import Derived.Test.YtbkmkelohlmblaaDet13
set_option linter.unusedSimpArgs false
set_option linter.unusedVariables false
namespace Go.Det

variable {P : Program} {base : Nat} {W0 : World} {m : Mp} {H : AH} {w : World} {fr : Fr} {a : Act} {call : XCall}

/-- our state beside the machine's -/
structure St (P : Program) (base : Nat) (W0 : World) (N : Nat) (m : Mp) (fr : Fr) (H : AH) (a : Act) (w : World) : Prop where
  hr : HR P base W0 m H w
  fr : FrRel m fr a.tmps
  df : a.defers = []
  sz : N ≤ a.tmps.size

theorem cOper_dst {N : Nat} {ops : Array Oper} {o : Oper} {x : XOper} (hc : cOper P N ops o = some x) : x.dst = o.dst ∧ ∀ d, o.dst = some d → d < N := by
  unfold cOper cOperX at hc
  · cases hd : dstOk N o.dst
    · simp only [hd, cond_false] at hc; cases hc
    · simp only [hd, cond_true] at hc
      have hdN : ∀ d, o.dst = some d → d < N := by
        intro d h
        rw [h] at hd
        exact natlt hd
      split at hc
      · cases hc; exact ⟨rfl, hdN⟩
      · split at hc
        · split at hc
          · cases hc; exact ⟨rfl, hdN⟩
          · simp at hc
        · simp at hc

theorem FrRel.put? {tmps : Array Value} (h : FrRel m fr tmps) {d : Option Nat} (hd : ∀ k, d = some k → k < tmps.size) {v v' : Value} (hv : VRel m v v') (a : Act) (ha : a.tmps = tmps) :
    FrRel m (fr.put? d v) (a.put d v').tmps := by
  subst ha
  cases d with
  | none => exact h
  | some k => exact h.put (hd k rfl) hv

theorem put_size (a : Act) (d : Option Nat) (v : Value) : (a.put d v).tmps.size = a.tmps.size := by cases d <;> simp [Act.put]
theorem put_defers (a : Act) (d : Option Nat) (v : Value) : (a.put d v).defers = a.defers := by cases d <;> rfl

theorem St.step {N : Nat} (h : St P base W0 N m fr H a w) {m' : Mp} {H' : AH} {w' : World} {d : Option Nat} (hd : ∀ k, d = some k → k < N) {v v' : Value} (hr : HR P base W0 m' H' w') (hF : Fut m H w m' H' w') (hv : VRel m' v v') :
    St P base W0 N m' (fr.put? d v) H' (a.put d v') w' :=
  { hr := hr, fr := (h.fr.mono hF.ext).put? (fun k hk => Nat.lt_of_lt_of_le (hd k hk) h.sz) hv a rfl, df := by rw [put_defers]; exact h.df, sz := by rw [put_size]; exact h.sz }

theorem xops_wpOps (hcall : CallsOk P call) {N : Nat} {ops : Array Oper} {Q : Exit → Act → World → Prop} {fr' : Fr} {H' : AH} :
    ∀ (os : List Oper) (xs : List XOper) (l : List Nat) (fr : Fr) (H : AH) (m : Mp) (a : Act) (w : World), cOpers P N ops os = some xs → All2 (fun i o => ops[i]? = some o) l os → xops P call xs fr H = some (fr', H') →
    St P base W0 N m fr H a w → (∀ m' a' w', St P base W0 N m' fr' H' a' w' → Fut m H w m' H' w' → Q .normal a' w') → wpOps P ops Q l a w
  | [], xs, _, fr, H, m, a, w, hc, .nil, hx, hst, hq => by
    simp [cOpers] at hc; subst hc
    simp [xops] at hx
    obtain ⟨rfl, rfl⟩ := hx
    exact hq m a w hst (.refl m H w)
  | o :: os, xs, i :: l, fr, H, m, a, w, hc, .cons hio hl, hx, hst, hq => by
    simp only [cOpers] at hc
    split at hc
    · rename_i x xs' hc1 hc2
      cases hc
      simp only [xops] at hx
      split at hx
      · rename_i v H1 hv
        rw [wpOps_cons]
        refine wpOp_mono ?_ (xval_wpOp hcall hio hc1 hv hst.hr hst.fr Q)
        rintro a' w' ⟨m', v', rfl, g1, g2, g3⟩
        obtain ⟨d1, d2⟩ := cOper_dst hc1
        have hst' := hst.step d2 g1 g2 g3
        rw [← d1] at hst'
        rw [← d1]
        exact xops_wpOps hcall os xs' l _ _ m' _ w' hc2 hl hx hst' (fun m2 a2 w2 h2 hF => hq m2 a2 w2 h2 (g2.trans hF))
      · simp at hx
    · simp at hc

theorem all2_range (ops : Array Oper) : All2 (fun i o => ops[i]? = some o) (List.range ops.size) ops.toList := by
  have key : ∀ (os : List Oper) (k : Nat), (∀ j o, os[j]? = some o → ops[k + j]? = some o) → All2 (fun i o => ops[i]? = some o) (List.range' k os.length) os := by
    intro os
    induction os with
    | nil => intro k _; exact .nil
    | cons o os ih =>
      intro k h
      rw [List.length_cons, List.range'_succ]
      exact .cons (by simpa using h 0 o rfl) (ih (k + 1) fun j o' hj => by have := h (j + 1) o' (by simpa using hj); rwa [show k + 1 + j = k + (j + 1) by omega])
  have := key ops.toList 0 (fun j o hj => by simpa using hj)
  rw [List.range_eq_range']
  simpa using this

end Go.Det
