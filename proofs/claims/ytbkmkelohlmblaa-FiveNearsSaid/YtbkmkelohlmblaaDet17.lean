/- A part of a run of a program on a heap of its own, and that the machine does what that run says: no condition but those that each theorem names. -/
import Derived.Test.YtbkmkelohlmblaaDet16
set_option linter.unusedSimpArgs false
set_option linter.unusedVariables false
namespace Go.Det

/-- the slots that are kept behind each region, in order -/
abbrev Hints := List (List Nat)

def cCode (P : Program) (N : Nat) : Code → Hints → Option (XCode × Hints)
  | .skip, hs => some (.skip, hs)
  | .region _ ops false, kp :: hs => match cOpers P N ops ops.toList with
    | some xs => some (.ops xs kp, hs)
    | none => none
  | .region _ ops true, kp :: hs => match cDops P N ops with
    | some ds => some (.dops ds kp, hs)
    | none => some (.cond (.const (.int .i64 0)) .skip .skip, hs)
  | .seq a b, hs => match cCode P N a hs with
    | some (x, hs1) => match cCode P N b hs1 with
      | some (y, hs2) => some (.seq x y, hs2)
      | none => none
    | none => none
  | .cond c a b, hs => bif okOpnd P.globals.size c then match cCode P N a hs with
      | some (x, hs1) => match cCode P N b hs1 with
        | some (y, hs2) => some (.cond c x y, hs2)
        | none => none
      | none => none
    else none
  | .block id c, hs => match cCode P N c hs with
    | some (x, hs1) => some (.block id x, hs1)
    | none => none
  | .loop c, hs => match cCode P N c hs with
    | some (x, hs1) => some (.loop x, hs1)
    | none => none
  | .exit id, hs => some (.exit id, hs)
  | .ret, hs => some (.ret, hs)
  | _, _ => none

def cRes (P : Program) : List ResultVar → Option (List XRes)
  | [] => some []
  | .tmp t :: r => match cRes P r with
    | some xs => some (.tmp t :: xs)
    | none => none
  | .cell a t :: r => match aggSize P t, cRes P r with
    | some n, some xs => some (.cell a n :: xs)
    | _, _ => none

def cFunc (P : Program) (fn : Func) (hs : Hints) : Option XFunc :=
  match fn.body with
  | none => none
  | some c => match cCode P fn.ntmps c hs, cRes P fn.results.toList with
    | some (x, []), some rs => bif fn.name == "runtime.NumGoroutine" then none else some (.code x rs)
    | _, _ => none

/-- a row of our table is what the program has -/
def FMatch (P : Program) (f : FuncId) (x : XFunc) : Prop :=
  match x with
  | .code _ _ => ∃ fn hs, P.funcs[f]? = some fn ∧ cFunc P fn hs = some x
  | .prim g => (∃ fn c, P.funcs[f]? = some fn ∧ fn.body = some c ∧ (fn.name == "runtime.NumGoroutine") = false) ∧ ∀ args H v H', g args H = some (v, H') → CallOk P f args H v H'

variable {P : Program} {base : Nat} {W0 : World} {T : XTab}

def PostE (P : Program) (base : Nat) (W0 : World) (N : Nat) (m : Mp) (H : AH) (w : World) (ex : XExit) (fr' : Fr) (H' : AH) (e : Exit) (a' : Act) (w' : World) : Prop :=
  e = ex.to ∧ ∃ m', St P base W0 N m' fr' H' a' w' ∧ Fut m H w m' H' w'

def CodeOk (P : Program) (self : XSelf) : Prop :=
  ∀ (N : Nat) (c : Code) (hs hs' : Hints) (x : XCode) (fr : Fr) (H : AH) (ex : XExit) (fr' : Fr) (H' : AH), cCode P N c hs = some (x, hs') → self x fr H = some (ex, fr', H') →
    ∀ base W0 m a w, St P base W0 N m fr H a w → c.wp P (PostE P base W0 N m H w ex fr' H') a w

def LoopOk (P : Program) (self : XSelf) (k : Nat) : Prop :=
  ∀ (N : Nat) (c : Code) (hs hs' : Hints) (x : XCode) (fr : Fr) (H : AH) (ex : XExit) (fr' : Fr) (H' : AH), cCode P N c hs = some (x, hs') → self (.loop x) fr H = some (ex, fr', H') →
    ∀ base W0 m a w, St P base W0 N m fr H a w → Code.rounds P c (PostE P base W0 N m H w ex fr' H') k a w

theorem PostE.trans {N : Nat} {m m1 : Mp} {H H1 : AH} {w w1 : World} {ex : XExit} {fr' : Fr} {H' : AH} (hF : Fut m H w m1 H1 w1) {e : Exit} {a' : Act} {w' : World} (h : PostE P base W0 N m1 H1 w1 ex fr' H' e a' w') :
    PostE P base W0 N m H w ex fr' H' e a' w' := by
  obtain ⟨h1, m', h2, h3⟩ := h
  exact ⟨h1, m', h2, hF.trans h3⟩

theorem rounds_mono {c : Code} {Q Q' : Exit → Act → World → Prop} (hq : ∀ e a w, Q e a w → Q' e a w) : ∀ (k : Nat) (a : Act) (w : World), Code.rounds P c Q k a w → Code.rounds P c Q' k a w
  | 0, _, _, h => h.elim
  | k + 1, a, w, h => by
    rw [rounds_succ] at *
    refine wp_mono h fun e a' w' hh => ?_
    cases e <;> first
      | exact rounds_mono hq k a' w' hh
      | exact hq _ _ _ hh

theorem St.keep {N : Nat} {m : Mp} {fr : Fr} {H : AH} {a : Act} {w : World} (h : St P base W0 N m fr H a w) (ks : List Nat) : St P base W0 N m (fr.keep ks) H a w :=
  { hr := h.hr, fr := h.fr.keep ks, df := h.df, sz := h.sz }

theorem xstep_code (hm : P.follows .mixedOrders = true) {self : XSelf} {k : Nat} (hself : CodeOk P self) (hcall : CallsOk P (xcallOf T self)) (hloop : LoopOk P (xstep P T self) (k + 1)) : CodeOk P (xstep P T self) := by
  intro N c
  induction c with
  | skip =>
    intro hs hs' x fr H ex fr' H' hc hx base W0 m a w hst
    simp only [cCode, Option.some.injEq, Prod.mk.injEq] at hc
    obtain ⟨rfl, rfl⟩ := hc
    simp only [xstep, Option.some.injEq, Prod.mk.injEq] at hx
    obtain ⟨rfl, rfl, rfl⟩ := hx
    exact wp_skip ⟨rfl, m, hst, .refl m H w⟩
  | region id ops draw =>
    intro hs hs' x fr H ex fr' H' hc hx base W0 m a w hst
    cases draw
    · cases hs with
      | nil => simp [cCode] at hc
      | cons kp hs =>
        simp only [cCode] at hc
        split at hc
        · rename_i xs hxs
          simp only [Option.some.injEq, Prod.mk.injEq] at hc
          obtain ⟨rfl, rfl⟩ := hc
          simp only [xstep] at hx
          split at hx
          · rename_i fr1 H1 hrun
            simp only [Option.some.injEq, Prod.mk.injEq] at hx
            obtain ⟨rfl, rfl, rfl⟩ := hx
            refine wp_region (xops_wpOps hcall ops.toList xs _ fr H m a w hxs (all2_range ops) hrun hst ?_)
            intro m' a' w' h1 h2
            exact ⟨rfl, m', h1.keep kp, h2⟩
          · simp at hx
        · simp at hc
    · cases hs with
      | nil => simp [cCode] at hc
      | cons kp hs =>
        simp only [cCode] at hc
        split at hc
        · rename_i ds hds
          simp only [Option.some.injEq, Prod.mk.injEq] at hc
          obtain ⟨rfl, rfl⟩ := hc
          simp only [xstep] at hx
          split at hx
          · rename_i fr1 H1 hrun
            simp only [Option.some.injEq, Prod.mk.injEq] at hx
            obtain ⟨rfl, rfl, rfl⟩ := hx
            have hst' : St P base W0 N m fr H a { w with drawn := w.drawn + 1 } := { hr := hst.hr.drew, fr := hst.fr, df := hst.df, sz := hst.sz }
            refine wp_region_any hm (xdops_wpAny hcall hds hrun hst' ?_)
            intro m' a' w' h1 h2
            exact ⟨rfl, m', h1.keep kp, (Fut.drew m H w).trans h2⟩
          · simp at hx
        · simp only [Option.some.injEq, Prod.mk.injEq] at hc
          obtain ⟨rfl, rfl⟩ := hc
          simp [xstep, ev] at hx
  | seq c1 c2 ih1 ih2 =>
    intro hs hs' x fr H ex fr' H' hc hx base W0 m a w hst
    simp only [cCode] at hc
    split at hc
    · rename_i x1 hs1 hc1
      split at hc
      · rename_i x2 hs2 hc2
        simp only [Option.some.injEq, Prod.mk.injEq] at hc
        obtain ⟨rfl, rfl⟩ := hc
        simp only [xstep] at hx
        cases hr : self x1 fr H with
        | none => rw [hr] at hx; simp at hx
        | some r =>
          obtain ⟨e1, fr1, H1⟩ := r
          rw [hr] at hx
          have h1 := hself N c1 hs hs1 x1 fr H e1 fr1 H1 hc1 hr base W0 m a w hst
          refine wp_seq (wp_mono h1 ?_)
          rintro e a1 w1 ⟨rfl, m1, hst1, hF1⟩
          cases e1 with
          | normal =>
            simp only [] at hx
            exact wp_mono (hself N c2 hs1 hs2 x2 fr1 H1 ex fr' H' hc2 hx base W0 m1 a1 w1 hst1) fun e a2 w2 hp => hp.trans hF1
          | exit id =>
            simp only [Option.some.injEq, Prod.mk.injEq] at hx
            obtain ⟨rfl, rfl, rfl⟩ := hx
            exact ⟨rfl, m1, hst1, hF1⟩
          | ret =>
            simp only [Option.some.injEq, Prod.mk.injEq] at hx
            obtain ⟨rfl, rfl, rfl⟩ := hx
            exact ⟨rfl, m1, hst1, hF1⟩
      · simp at hc
    · simp at hc
  | cond c c1 c2 ih1 ih2 =>
    intro hs hs' x fr H ex fr' H' hc hx base W0 m a w hst
    simp only [cCode] at hc
    cases hok : okOpnd P.globals.size c
    · simp [hok] at hc
    · simp only [hok, cond_true] at hc
      split at hc
      · rename_i x1 hs1 hc1
        split at hc
        · rename_i x2 hs2 hc2
          simp only [Option.some.injEq, Prod.mk.injEq] at hc
          obtain ⟨rfl, rfl⟩ := hc
          simp only [xstep] at hx
          split at hx
          · rename_i hev
            have := flatD_eq 4 _ _ rfl (ev_sound hst.hr hst.fr hok hev)
            exact wp_cond (t := true) this.symm (hself N c1 hs hs1 x1 fr H ex fr' H' hc1 hx base W0 m a w hst)
          · rename_i hev
            have := flatD_eq 4 _ _ rfl (ev_sound hst.hr hst.fr hok hev)
            exact wp_cond (t := false) this.symm (hself N c2 hs1 hs2 x2 fr H ex fr' H' hc2 hx base W0 m a w hst)
          · simp at hx
        · simp at hc
      · simp at hc
  | block id c ih =>
    intro hs hs' x fr H ex fr' H' hc hx base W0 m a w hst
    simp only [cCode] at hc
    split at hc
    · rename_i x1 hs1 hc1
      simp only [Option.some.injEq, Prod.mk.injEq] at hc
      obtain ⟨rfl, rfl⟩ := hc
      simp only [xstep] at hx
      cases hr : self x1 fr H with
      | none => rw [hr] at hx; simp at hx
      | some r =>
        obtain ⟨e1, fr1, H1⟩ := r
        rw [hr] at hx
        have h1 := hself N c hs hs1 x1 fr H e1 fr1 H1 hc1 hr base W0 m a w hst
        refine wp_block (wp_mono h1 ?_)
        rintro e a1 w1 ⟨rfl, m1, hst1, hF1⟩
        cases e1 with
        | normal =>
          simp only [Option.some.injEq, Prod.mk.injEq] at hx
          obtain ⟨rfl, rfl, rfl⟩ := hx
          exact ⟨rfl, m1, hst1, hF1⟩
        | exit j =>
          simp only [] at hx
          simp only [XExit.to, Exit.inBlock]
          by_cases hj : j = id
          · subst hj
            have : Nat.beq j j = true := by simp
            rw [this] at hx
            simp only [cond_true, Option.some.injEq, Prod.mk.injEq] at hx
            obtain ⟨rfl, rfl, rfl⟩ := hx
            rw [if_pos rfl]
            exact ⟨rfl, m1, hst1, hF1⟩
          · have : Nat.beq j id = false := by rw [Tr.beq_eq]; simp [hj]
            rw [this] at hx
            simp only [cond_false, Option.some.injEq, Prod.mk.injEq] at hx
            obtain ⟨rfl, rfl, rfl⟩ := hx
            rw [if_neg hj]
            exact ⟨rfl, m1, hst1, hF1⟩
        | ret =>
          simp only [Option.some.injEq, Prod.mk.injEq] at hx
          obtain ⟨rfl, rfl, rfl⟩ := hx
          exact ⟨rfl, m1, hst1, hF1⟩
    · simp at hc
  | loop c ih =>
    intro hs hs' x fr H ex fr' H' hc hx base W0 m a w hst
    simp only [cCode] at hc
    split at hc
    · rename_i x1 hs1 hc1
      simp only [Option.some.injEq, Prod.mk.injEq] at hc
      obtain ⟨rfl, rfl⟩ := hc
      exact wp_loop_rounds (k + 1) (hloop N c hs hs1 x1 fr H ex fr' H' hc1 hx base W0 m a w hst)
    · simp at hc
  | exit id =>
    intro hs hs' x fr H ex fr' H' hc hx base W0 m a w hst
    simp only [cCode, Option.some.injEq, Prod.mk.injEq] at hc
    obtain ⟨rfl, rfl⟩ := hc
    simp only [xstep, Option.some.injEq, Prod.mk.injEq] at hx
    obtain ⟨rfl, rfl, rfl⟩ := hx
    exact wp_exit ⟨rfl, m, hst, .refl m H w⟩
  | ret =>
    intro hs hs' x fr H ex fr' H' hc hx base W0 m a w hst
    simp only [cCode, Option.some.injEq, Prod.mk.injEq] at hc
    obtain ⟨rfl, rfl⟩ := hc
    simp only [xstep, Option.some.injEq, Prod.mk.injEq] at hx
    obtain ⟨rfl, rfl, rfl⟩ := hx
    exact wp_ret ⟨rfl, m, hst, .refl m H w⟩
  | _ => intro hs hs' x fr H ex fr' H' hc; simp [cCode] at hc

theorem xstep_loop {self : XSelf} {k : Nat} (hself : CodeOk P self) (hloop : LoopOk P self k) : LoopOk P (xstep P T self) (k + 1) := by
  intro N c hs hs' x fr H ex fr' H' hc hx base W0 m a w hst
  simp only [xstep] at hx
  cases hr : self x fr H with
  | none => rw [hr] at hx; simp at hx
  | some r =>
    obtain ⟨e1, fr1, H1⟩ := r
    rw [hr] at hx
    have h1 := hself N c hs hs' x fr H e1 fr1 H1 hc hr base W0 m a w hst
    rw [rounds_succ]
    refine wp_mono h1 ?_
    rintro e a1 w1 ⟨rfl, m1, hst1, hF1⟩
    cases e1 with
    | normal =>
      simp only [] at hx
      exact rounds_mono (fun e a2 w2 hp => hp.trans hF1) k a1 w1 (hloop N c hs hs' x fr1 H1 ex fr' H' hc hx base W0 m1 a1 w1 hst1)
    | exit id =>
      simp only [Option.some.injEq, Prod.mk.injEq] at hx
      obtain ⟨rfl, rfl, rfl⟩ := hx
      exact ⟨rfl, m1, hst1, hF1⟩
    | ret =>
      simp only [Option.some.injEq, Prod.mk.injEq] at hx
      obtain ⟨rfl, rfl, rfl⟩ := hx
      exact ⟨rfl, m1, hst1, hF1⟩

/-! ### calls -/
theorem ofArgs_get : ∀ (vs : List Value) (k i : Nat) (v : Value), (ofArgs k vs).get i = some v → k ≤ i ∧ vs[i - k]? = some v
  | [], k, i, v, h => by simp [ofArgs, Fr.get] at h
  | u :: vs, k, i, v, h => by
    simp only [ofArgs, Fr.get, Tr.beq_eq] at h
    by_cases hk : k = i
    · simp [hk] at h; subst h; subst hk; simp
    · simp only [hk, decide_false, cond_false] at h
      obtain ⟨h1, h2⟩ := ofArgs_get vs (k + 1) i v h
      refine ⟨by omega, ?_⟩
      rw [show i - k = (i - (k + 1)) + 1 by omega]
      simpa using h2

def resOne (tmps : Array Value) : ResultVar → Sem Value
  | .tmp t => pure (tmps.getD t undef)
  | .cell a t => do loadVar t (← asAddr (tmps.getD a undef))

theorem results_eq (fn : Func) (tmps : Array Value) : results fn tmps = (do
    let vs ← fn.results.mapM (resOne tmps)
    pure (if h : vs.size = 1 then vs[0] else .tuple vs)) := rfl

theorem xres_run {fr : Fr} {H : AH} {m : Mp} {a : Act} {w : World} (hr : HR P base W0 m H w) (hf : FrRel m fr a.tmps) : ∀ (rs : List ResultVar) (xs : List XRes) (vs : List Value), cRes P rs = some xs → xress fr H xs = some vs →
    ∃ vs', (rs.mapM (resOne a.tmps)).run P w = .ok vs' w ∧ LRel m vs vs'
  | [], xs, vs, hc, hx => by
    simp [cRes] at hc; subst hc
    simp [xress] at hx; subst hx
    exact ⟨[], by simp, .nil⟩
  | .tmp t :: rs, xs, vs, hc, hx => by
    simp only [cRes] at hc
    split at hc
    · rename_i ys hys
      cases hc
      simp only [xress] at hx
      split at hx
      · rename_i v us hv hus
        cases hx
        obtain ⟨vs', h1, h2⟩ := xres_run hr hf rs ys us hys hus
        simp only [xres] at hv
        obtain ⟨v', g1, g2⟩ := hf t v hv
        refine ⟨v' :: vs', ?_, ?_⟩
        · have : a.tmps.getD t undef = v' := by simp [Array.getD_eq_getD_getElem?, g1]
          simp only [List.mapM_cons, resOne, Sem.run_bind, Sem.run_pure, Result.andThen_ok, h1, this]
        · exact (show LRel m [v] [v'] from ⟨rfl, fun i x hi => by
            cases i with
            | zero => simp at hi; subst hi; exact ⟨v', rfl, g2⟩
            | succ i => simp at hi⟩).append h2
      · simp at hx
    · simp at hc
  | .cell b t :: rs, xs, vs, hc, hx => by
    simp only [cRes] at hc
    split at hc
    · rename_i n ys hn hys
      cases hc
      simp only [xress] at hx
      split at hx
      · rename_i v us hv hus
        cases hx
        obtain ⟨vs', h1, h2⟩ := xres_run hr hf rs ys us hys hus
        simp only [xres] at hv
        split at hv
        · rename_i B off hb
          split at hv
          · rename_i blk hblk
            obtain ⟨q, g1, g2⟩ := hf b _ hb
            obtain ⟨e, he, hk, rfl⟩ := VRel.live_ptr hr hblk g2
            have hget : a.tmps.getD b undef = .pointer (some ⟨e.b, e.base + off, none⟩) := by simp [Array.getD_eq_getD_getElem?, g1]
            obtain ⟨ha, hs⟩ := run_isAgg hn w
            have hload : ∃ v', (loadVar t ⟨e.b, e.base + off, none⟩).run P w = .ok v' w ∧ VRel m v v' := by
              cases n with
              | none =>
                obtain ⟨v', k1, k2⟩ := hr.cell hblk hv he
                exact ⟨v', by simp [loadVar, ha, k1], k2⟩
              | some k =>
                simp only [partV] at hv
                cases hle : Nat.ble (off + k) blk.cells.length
                · simp [hle] at hv
                · simp only [hle, cond_true, Option.some.injEq] at hv
                  obtain ⟨cs, k1, k2⟩ := run_loadCells_rel (P := P) hr hblk he off k (by simpa using hle)
                  subst hv
                  exact ⟨.agg cs.toArray, by simp [loadVar, ha, hs k rfl, k1], k2.to_agg⟩
            obtain ⟨v', k1, k2⟩ := hload
            refine ⟨v' :: vs', ?_, ?_⟩
            · simp only [List.mapM_cons, resOne, Sem.run_bind, Sem.run_pure, Result.andThen_ok, h1, hget, asAddr, k1]
            · exact (show LRel m [v] [v'] from ⟨rfl, fun i x hi => by
                cases i with
                | zero => simp at hi; subst hi; exact ⟨v', rfl, k2⟩
                | succ i => simp at hi⟩).append h2
          · simp at hv
        · simp at hv
      · simp at hx
    · simp at hc

theorem xresult_run {fr : Fr} {H : AH} {m : Mp} {a : Act} {w : World} (hr : HR P base W0 m H w) (hf : FrRel m fr a.tmps) {fn : Func} {xs : List XRes} {v : Value} (hc : cRes P fn.results.toList = some xs) (hx : xresult fr H xs = some v) :
    ∃ v', (results fn a.tmps).run P w = .ok v' w ∧ VRel m v v' := by
  unfold xresult at hx
  have go : ∀ vs, xress fr H xs = some vs → ∃ vs', (results fn a.tmps).run P w = .ok (if h : vs'.length = 1 then vs'[0] else .tuple vs'.toArray) w ∧ LRel m vs vs' := by
    intro vs hvs
    obtain ⟨vs', h1, h2⟩ := xres_run hr hf _ _ _ hc hvs
    refine ⟨vs', ?_, h2⟩
    rw [results_eq, Array.mapM_eq_mapM_toList]
    simp only [Sem.run_bind, Sem.run_map]
    rw [h1]
    simp
  split at hx
  · rename_i u hu
    cases hx
    obtain ⟨vs', h1, h2⟩ := go _ hu
    have hl : vs'.length = 1 := h2.1.symm
    rw [dif_pos hl] at h1
    obtain ⟨y, k1, k2⟩ := h2.2 0 v rfl
    have : vs'[0] = y := by rw [List.getElem?_eq_getElem (by omega)] at k1; exact Option.some.inj k1
    exact ⟨y, by rw [← this]; exact h1, k2⟩
  · rename_i vs hne hvs
    cases hx
    obtain ⟨vs', h1, h2⟩ := go _ hvs
    have hl : ¬ vs'.length = 1 := by
      intro hl
      rw [← h2.1] at hl
      match vs, hl with
      | [u], _ => exact hne u rfl
    rw [dif_neg hl] at h1
    exact ⟨_, h1, h2.to_tuple⟩
  · simp at hx

theorem xcallOf_ok {self : XSelf} (hT : ∀ f x, T f = some x → FMatch P f x) (hself : CodeOk P self) : CallsOk P (xcallOf T self) := by
  intro f args H v H' hx
  unfold xcallOf at hx
  cases ht : T f with
  | none => rw [ht] at hx; simp at hx
  | some x =>
    rw [ht] at hx
    have hm := hT f x ht
    cases x with
    | prim g =>
      obtain ⟨h1, h2⟩ := hm
      exact ⟨h2 args H v H' hx, h1⟩
    | code body res =>
      obtain ⟨fn, hs, hf, hc⟩ := hm
      unfold cFunc at hc
      split at hc
      · simp at hc
      rename_i c hb
      split at hc
      · rename_i x rs hc1 hc2
        cases hn : (fn.name == "runtime.NumGoroutine")
        · simp only [hn, cond_false, Option.some.injEq, XFunc.code.injEq] at hc
          obtain ⟨rfl, rfl⟩ := hc
          refine ⟨?_, fn, c, hf, hb, hn⟩
          intro base W0 m w args' hr hl
          refine calls_of_wp hf hb ?_
          have hst : St P base W0 fn.ntmps m (ofArgs 0 args) H { tmps := args'.toArray ++ Array.replicate (fn.ntmps - args'.toArray.size) undef, defers := [] } w := by
            refine { hr := hr, fr := ?_, df := rfl, sz := by simp; omega }
            intro i u hu
            obtain ⟨_, h2⟩ := ofArgs_get args 0 i u hu
            obtain ⟨u', k1, k2⟩ := hl.2 i u (by simpa using h2)
            have hlt : i < args'.length := (List.getElem?_eq_some_iff.1 k1).1
            refine ⟨u', ?_, k2⟩
            rw [Array.getElem?_append_left (by simpa using hlt)]
            simpa using k1
          have fin : ∀ ex fr' H1, self x (ofArgs 0 args) H = some (ex, fr', H1) → (ex = .ret ∨ ex = .normal) → xresult fr' H1 rs = some v → H' = H1 →
              c.wp P (bodyPost P fn fun e w' => ∃ m' v', e = .returned v' ∧ HR P base W0 m' H' w' ∧ Fut m H w m' H' w' ∧ VRel m' v v') { tmps := args'.toArray ++ Array.replicate (fn.ntmps - args'.toArray.size) undef, defers := [] } w := by
            intro ex fr' H1 h1 h2 h3 h4
            subst h4
            refine wp_mono (hself fn.ntmps c hs [] x _ H ex fr' H' hc1 h1 base W0 m _ w hst) ?_
            rintro e a' w' ⟨rfl, m', hst', hF⟩
            obtain ⟨v', k1, k2⟩ := xresult_run hst'.hr hst'.fr hc2 h3
            rcases h2 with rfl | rfl
            · exact ⟨hst'.df, v', k1, m', v', rfl, hst'.hr, hF, k2⟩
            · exact ⟨hst'.df, v', k1, m', v', rfl, hst'.hr, hF, k2⟩
          cases hr1 : self x (ofArgs 0 args) H with
          | none => simp only [hr1] at hx; cases hx
          | some r =>
            obtain ⟨ex, fr', H1⟩ := r
            simp only [hr1] at hx
            cases ex with
            | normal =>
              simp only [] at hx
              cases hu : xresult fr' H1 rs with
              | none => rw [hu] at hx; simp at hx
              | some u =>
                rw [hu] at hx
                simp only [Option.some.injEq, Prod.mk.injEq] at hx
                obtain ⟨rfl, rfl⟩ := hx
                exact fin _ _ _ hr1 (.inr rfl) hu rfl
            | exit id => simp at hx
            | ret =>
              simp only [] at hx
              cases hu : xresult fr' H1 rs with
              | none => rw [hu] at hx; simp at hx
              | some u =>
                rw [hu] at hx
                simp only [Option.some.injEq, Prod.mk.injEq] at hx
                obtain ⟨rfl, rfl⟩ := hx
                exact fin _ _ _ hr1 (.inl rfl) hu rfl
        · simp [hn] at hc
      · simp at hc

/-- WHAT OUR RUN SAYS, THE MACHINE DOES. -/
theorem xcode_ok (hm : P.follows .mixedOrders = true) (hT : ∀ f x, T f = some x → FMatch P f x) : ∀ k, CodeOk P (xcode P T k) ∧ LoopOk P (xcode P T k) k
  | 0 => ⟨fun N c hs hs' x fr H ex fr' H' hc hx => by simp [xcode_zero] at hx, fun N c hs hs' x fr H ex fr' H' hc hx => by simp [xcode_zero] at hx⟩
  | k + 1 => by
    obtain ⟨h1, h2⟩ := xcode_ok hm hT k
    rw [xcode_succ]
    have hl := xstep_loop (T := T) h1 h2
    exact ⟨xstep_code hm h1 (xcallOf_ok hT h1) hl, hl⟩

theorem xcall_ok (hm : P.follows .mixedOrders = true) (hT : ∀ f x, T f = some x → FMatch P f x) {k : Nat} {f : FuncId} {args : List Value} {H : AH} {v : Value} {H' : AH} (h : xcall P T k f args H = some (v, H')) : CallOk P f args H v H' :=
  (xcallOf_ok hT (xcode_ok hm hT k).1 f args H v H' h).1

/-! for a table that is a tree of comparisons -/
theorem two_ok {c : Bool} {a b : Option XFunc} {x : XFunc} (h : (bif c then a else b) = some x) : a = some x ∨ b = some x := by
  cases c
  · exact .inr h
  · exact .inl h

theorem one_ok {P : Program} {f k : Nat} {y x : XFunc} (h : (bif Nat.beq f k then some y else none) = some x) (hm : f = k → y = x → FMatch P f x) : FMatch P f x := by
  cases hb : Nat.beq f k
  · rw [hb] at h; cases h
  · rw [hb] at h
    simp only [cond_true, Option.some.injEq] at h
    exact hm (Nat.eq_of_beq_eq_true hb) h

end Go.Det
