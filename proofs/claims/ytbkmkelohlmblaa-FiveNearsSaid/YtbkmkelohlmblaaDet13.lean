/- A part of a run of a program on a heap of its own, and that the machine does what that run says: no condition but those that each theorem names. -/
import Derived.Test.YtbkmkelohlmblaaDet12
set_option linter.unusedSimpArgs false
set_option linter.unusedVariables false
namespace Go.Det

/-! ### code -/
structure XOper where
  dst : Option Nat
  op : XOp
  gd : Option (Nat × Bool)

/-- an operation of a region whose order is drawn -/
structure XDop where
  x : XOper
  rd : List Nat
  kind : Nat
  stab : List Nat

inductive XCode where
  | skip
  | ops (l : List XOper) (keep : List Nat)
  | dops (l : List XDop) (keep : List Nat)
  | seq (a b : XCode)
  | cond (c : Operand) (a b : XCode)
  | block (id : Nat) (c : XCode)
  | loop (c : XCode)
  | exit (id : Nat)
  | ret
  deriving Inhabited

inductive XExit where
  | normal
  | exit (id : Nat)
  | ret

def XExit.to : XExit → Exit
  | .normal => .normal
  | .exit id => .exit id
  | .ret => .ret

inductive XRes where
  | tmp (t : Nat)
  | cell (t : Nat) (n : Option Nat)

inductive XFunc where
  | code (body : XCode) (res : List XRes)
  | prim (g : List Value → AH → Option (Value × AH))
  deriving Inhabited

abbrev XCall := FuncId → List Value → AH → Option (Value × AH)

def xwanted (fr : Fr) : Option (Nat × Bool) → Option Bool
  | none => some true
  | some (d, want) => match fr.get d with
    | some (.bool b) => some (b == want)
    | some (.tuple xs) => bif Nat.beq xs.size 0 then some false else none
    | _ => none

/-- what an operation gives, and the heap behind it -/
def xval (P : Program) (call : XCall) (x : XOper) (fr : Fr) (H : AH) : Option (Value × AH) :=
  match xwanted fr x.gd with
  | none => none
  | some false => some (undef, H)
  | some true => match x.op with
    | .call f args => match evs fr args with
      | some vs => call f vs H
      | none => none
    | .callv y args => match ev fr y, evs fr args with
      | some (.func (.func f) first caps), some vs => call f (first.toList ++ vs ++ caps.toList) H
      | _, _ => none
    | op => xop P fr H op

def xops (P : Program) (call : XCall) : List XOper → Fr → AH → Option (Fr × AH)
  | [], fr, H => some (fr, H)
  | x :: xs, fr, H => match xval P call x fr H with
    | some (v, H') => xops P call xs (fr.put? x.dst v) H'
    | none => none

/-- values that are seen to be equal -/
def veq1 : Value → Value → Bool
  | .bool a, .bool b => a == b
  | .int k a, .int j b => decide (k = j) && decide (a = b)
  | .string a, .string b => decide (a.data.toList = b.data.toList)
  | .pointer none, .pointer none => true
  | .pointer (some a), .pointer (some b) => decide (a = b)
  | .slice none l c, .slice none l' c' => Nat.beq l l' && Nat.beq c c'
  | .slice (some a) l c, .slice (some b) l' c' => decide (a = b) && Nat.beq l l' && Nat.beq c c'
  | .nilFunc, .nilFunc => true
  | .nilIface, .nilIface => true
  | _, _ => false

theorem veq1_eq {a b : Value} (h : veq1 a b = true) : a = b := by
  unfold veq1 at h
  split at h
  · simp at h; rw [h]
  · simp at h; rw [h.1, h.2]
  · rename_i a b
    simp only [decide_eq_true_eq] at h
    have : a = b := by
      cases a with | mk a => cases b with | mk b => congr 1; exact Array.ext' h
    rw [this]
  · rfl
  · simp at h; rw [h]
  · simp only [Bool.and_eq_true] at h; rw [Nat.eq_of_beq_eq_true h.1, Nat.eq_of_beq_eq_true h.2]
  · simp only [Bool.and_eq_true, decide_eq_true_eq] at h; rw [h.1.1, Nat.eq_of_beq_eq_true h.1.2, Nat.eq_of_beq_eq_true h.2]
  · rfl
  · rfl
  · simp at h

def veqL : List Value → List Value → Bool
  | [], [] => true
  | a :: as, b :: bs => veq1 a b && veqL as bs
  | _, _ => false
theorem veqL_eq : ∀ {a b : List Value}, veqL a b = true → a = b
  | [], [], _ => rfl
  | [], _ :: _, h => by simp [veqL] at h
  | _ :: _, [], h => by simp [veqL] at h
  | a :: as, b :: bs, h => by
    simp only [veqL, Bool.and_eq_true] at h
    rw [veq1_eq h.1, veqL_eq h.2]
def veq (a b : Value) : Bool :=
  match a, b with
  | .agg x, .agg y => veqL x.toList y.toList
  | a, b => veq1 a b
theorem veq_eq {a b : Value} (h : veq a b = true) : a = b := by
  unfold veq at h
  split at h
  · rw [Array.ext' (veqL_eq h)]
  · exact veq1_eq h

structure DOut where
  fr : Fr
  H : AH
  hs : List (Nat × AH)
  cs : List (XDop × Fr × Value)

def drun (P : Program) (call : XCall) : Nat → List XDop → Fr → AH → List (Nat × AH) → List (XDop × Fr × Value) → Option DOut
  | _, [], fr, H, hs, cs => some ⟨fr, H, hs, cs⟩
  | t, d :: ds, fr, H, hs, cs => match xval P call d.x (fr.keep d.rd) H with
    | some (v, H') => drun P call (t + 1) ds (fr.put? d.x.dst v) H' (bif Nat.ble 2 d.kind then (t + 1, H') :: hs else hs) (match d.stab with | [] => cs | _ => (d, fr.keep d.rd, v) :: cs)
    | none => none

def heapAt : List (Nat × AH) → Nat → Option AH
  | [], _ => none
  | p :: r, t => bif Nat.beq p.1 t then some p.2 else heapAt r t

def stabOk (P : Program) (call : XCall) (hs : List (Nat × AH)) (c : XDop × Fr × Value) : Bool :=
  c.1.stab.all fun t => match heapAt hs t with
    | some H => match xval P call c.1.x c.2.1 H with
      | some r => veq c.2.2 r.1
      | none => false
    | none => false

def xdops (P : Program) (call : XCall) (ds : List XDop) (fr : Fr) (H : AH) : Option (Fr × AH) :=
  match drun P call 0 ds fr H [(0, H)] [] with
  | some r => bif r.cs.all (stabOk P call r.hs) then some (r.fr, r.H) else none
  | none => none

def xres (fr : Fr) (H : AH) : XRes → Option Value
  | .tmp t => fr.get t
  | .cell t n => match fr.get t with
    | some (.pointer (some ⟨B, o, none⟩)) => match H.get B with
      | some blk => partV blk.cells o n
      | none => none
    | _ => none

def xress (fr : Fr) (H : AH) : List XRes → Option (List Value)
  | [] => some []
  | x :: xs => match xres fr H x, xress fr H xs with
    | some v, some vs => some (v :: vs)
    | _, _ => none

def xresult (fr : Fr) (H : AH) (rs : List XRes) : Option Value :=
  match xress fr H rs with
  | some [v] => some v
  | some vs => some (.tuple vs.toArray)
  | none => none

def ofArgs : Nat → List Value → Fr
  | _, [] => []
  | i, v :: vs => (i, v) :: ofArgs (i + 1) vs

abbrev XTab := FuncId → Option XFunc
abbrev XSelf := XCode → Fr → AH → Option (XExit × Fr × AH)

def xcallOf (T : XTab) (self : XSelf) : XCall := fun f args H =>
  match T f with
  | none => none
  | some (.prim g) => g args H
  | some (.code body res) => match self body (ofArgs 0 args) H with
    | some (.ret, fr, H') => match xresult fr H' res with
      | some v => some (v, H')
      | none => none
    | some (.normal, fr, H') => match xresult fr H' res with
      | some v => some (v, H')
      | none => none
    | _ => none

def xstep (P : Program) (T : XTab) (self : XSelf) : XSelf := fun c fr H =>
  match c with
  | .skip => some (.normal, fr, H)
  | .ops l keep => match xops P (xcallOf T self) l fr H with
    | some (fr', H') => some (.normal, fr'.keep keep, H')
    | none => none
  | .dops l keep => match xdops P (xcallOf T self) l fr H with
    | some (fr', H') => some (.normal, fr'.keep keep, H')
    | none => none
  | .seq a b => match self a fr H with
    | some (.normal, fr', H') => self b fr' H'
    | r => r
  | .cond c a b => match ev fr c with
    | some (.bool true) => self a fr H
    | some (.bool false) => self b fr H
    | _ => none
  | .block id c => match self c fr H with
    | some (.exit j, fr', H') => bif Nat.beq j id then some (.normal, fr', H') else some (.exit j, fr', H')
    | r => r
  | .loop c => match self c fr H with
    | some (.normal, fr', H') => self (.loop c) fr' H'
    | r => r
  | .exit id => some (.exit id, fr, H)
  | .ret => some (.ret, fr, H)

def xcode (P : Program) (T : XTab) (k : Nat) : XSelf := Nat.rec (fun _ _ _ => none) (fun _ self => xstep P T self) k

theorem xcode_zero (P : Program) (T : XTab) : xcode P T 0 = fun _ _ _ => none := rfl
theorem xcode_succ (P : Program) (T : XTab) (k : Nat) : xcode P T (k + 1) = xstep P T (xcode P T k) := rfl

def xcall (P : Program) (T : XTab) (k : Nat) : XCall := xcallOf T (xcode P T k)

/-! ### out of the program's code -/
def dstOk (N : Nat) : Option Nat → Bool
  | some d => Nat.blt d N
  | none => true

/-- what has no run -/
def failOp : XOp := .ext (.const (.bool false)) 0

def cOpF (P : Program) (o : Oper) : XOp :=
  match cOp P o with
  | none => failOp
  | some x => x

def cOperX (N : Nat) (ops : Array Oper) (o : Oper) (x : XOp) : Option XOper :=
  bif dstOk N o.dst then
    match o.guard with
    | none => some ⟨o.dst, x, none⟩
    | some (j, want) => match ops[j]? with
      | some oj => match oj.dst with
        | some d => some ⟨o.dst, x, some (d, want)⟩
        | none => none
      | none => none
  else none

def cOper (P : Program) (N : Nat) (ops : Array Oper) (o : Oper) : Option XOper := cOperX N ops o (cOpF P o)

def cOpers (P : Program) (N : Nat) (ops : Array Oper) : List Oper → Option (List XOper)
  | [] => some []
  | o :: os => match cOper P N ops o, cOpers P N ops os with
    | some x, some xs => some (x :: xs)
    | _, _ => none

variable {P : Program} {base : Nat} {W0 : World} {m : Mp} {H : AH} {w : World} {fr : Fr} {a : Act}

abbrev HR (P : Program) (base : Nat) (W0 : World) (m : Mp) (H : AH) (w : World) : Prop := HRel P.globals.size base W0 m H w

/-- what a call of ours says of the machine's -/
def CallOk (P : Program) (f : FuncId) (args : List Value) (H : AH) (v : Value) (H' : AH) : Prop :=
  ∀ (base : Nat) (W0 : World) (m : Mp) (w : World) (args' : List Value), HR P base W0 m H w → LRel m args args' →
    Calls P f args'.toArray w fun e w' => ∃ m' v', e = .returned v' ∧ HR P base W0 m' H' w' ∧ Fut m H w m' H' w' ∧ VRel m' v v'

def CallsOk (P : Program) (call : XCall) : Prop := ∀ f args H v H', call f args H = some (v, H') → CallOk P f args H v H' ∧ ∃ fn c, P.funcs[f]? = some fn ∧ fn.body = some c ∧ (fn.name == "runtime.NumGoroutine") = false

theorem run_callFunc {f : FuncId} {fn : Func} {c : Code} (hf : P.funcs[f]? = some fn) (hb : fn.body = some c) (hn : (fn.name == "runtime.NumGoroutine") = false) (args : Array Value) (w : World) :
    (callFunc f args).run P w = .ok (.enter f args) w := by
  have hn' : ¬ fn.name = "runtime.NumGoroutine" := by simpa using hn
  simp [callFunc, hf, hn', hb]

def notCall : XOp → Bool
  | .call .. | .callv .. => false
  | _ => true

theorem cRaw_notCall {o : Oper} {x : XOp} (hn : ∀ c, o.op ≠ .call c) (h : cRaw P o = some x) : notCall x = true := by
  cases hop : o.op
  case call c => exact absurd hop (hn c)
  all_goals
    simp only [cRaw, hop, Bool.cond_eq_ite] at h
    repeat' split at h
    all_goals first
      | (cases h; rfl)
      | cases h

theorem cRaw_builtin {o : Oper} {x : XOp} {c : Call} (hop : o.op = .call c) {b : Builtin} (hc : c.callee = .builtin b) (h : cRaw P o = some x) : notCall x = true := by
  simp only [cRaw, hop, hc, Bool.cond_eq_ite] at h
  repeat' split at h
  all_goals first
    | (cases h; rfl)
    | cases h

theorem cRaw_call {o : Oper} {f : FuncId} {args : List Operand} (h : cRaw P o = some (.call f args)) : ∃ c, o.op = .call c ∧ c.callee = .value (.func f) ∧ c.args.toList = args := by
  by_cases hn : ∃ c, o.op = .call c
  · obtain ⟨c, hop⟩ := hn
    cases hc : c.callee with
    | value y =>
      cases y <;> simp only [cRaw, hop, hc, Option.some.injEq] at h <;> cases h
      exact ⟨c, hop, hc, rfl⟩
    | invoke r m => simp [cRaw, hop, hc] at h
    | builtin b => have := cRaw_builtin hop hc h; simp [notCall] at this
  · have := cRaw_notCall (fun c hc => hn ⟨c, hc⟩) h; simp [notCall] at this

theorem cRaw_callv {o : Oper} {y : Operand} {args : List Operand} (h : cRaw P o = some (.callv y args)) : ∃ c, o.op = .call c ∧ c.callee = .value y ∧ c.args.toList = args := by
  by_cases hn : ∃ c, o.op = .call c
  · obtain ⟨c, hop⟩ := hn
    cases hc : c.callee with
    | value y =>
      cases y <;> simp only [cRaw, hop, hc, Option.some.injEq] at h <;> cases h <;> exact ⟨c, hop, hc, rfl⟩
    | invoke r m => simp [cRaw, hop, hc] at h
    | builtin b => have := cRaw_builtin hop hc h; simp [notCall] at this
  · have := cRaw_notCall (fun c hc => hn ⟨c, hc⟩) h; simp [notCall] at this

theorem xwanted_sound {ops : Array Oper} {o : Oper} {x : XOper} {N : Nat} (hc : cOper P N ops o = some x) (hf : FrRel m fr a.tmps) {b : Bool} (hw : xwanted fr x.gd = some b) :
    Region.wanted o (yielded ops a.tmps) = b ∧ x.dst = o.dst ∧ cOpF P o = x.op ∧ ∀ d, o.dst = some d → d < N := by
  unfold cOper cOperX at hc
  generalize hy : cOpF P o = y at hc
  · cases hd : dstOk N o.dst
    · simp only [hd, cond_false] at hc; cases hc
    · simp only [hd, cond_true] at hc
      have hdN : ∀ d, o.dst = some d → d < N := by
        intro d h
        rw [h] at hd
        exact natlt hd
      split at hc
      · rename_i hg
        cases hc
        simp only [xwanted, Option.some.injEq] at hw; subst hw
        exact ⟨by simp [Region.wanted, hg], rfl, rfl, hdN⟩
      · rename_i j want hg
        split at hc
        · rename_i oj hoj
          split at hc
          · rename_i d hdj
            cases hc
            refine ⟨?_, rfl, rfl, hdN⟩
            simp only [xwanted] at hw
            unfold Region.wanted
            simp only [hg]
            split at hw
            · rename_i bb hb
              simp only [Option.some.injEq] at hw; subst hw
              obtain ⟨v', h1, h2⟩ := hf d _ hb
              have := flatD_eq 4 _ _ rfl h2
              subst this
              have hyl : yielded ops a.tmps j = some bb := by
                simp only [yielded, hoj, Option.bind_some, hdj, h1]
              rw [hyl]
              cases bb <;> cases want <;> rfl
            · rename_i xs hb
              cases hz : Nat.beq xs.size 0
              · simp [hz] at hw
              · simp only [hz, cond_true, Option.some.injEq] at hw; subst hw
                obtain ⟨v', h1, h2⟩ := hf d _ hb
                have hyl : yielded ops a.tmps j = none := by
                  simp only [yielded, hoj, Option.bind_some, hdj, h1]
                  cases h2; rfl
                rw [hyl]; rfl
            · simp at hw
          · simp at hc
        · simp at hc

/-- one operation, in whatever state of the frame -/
theorem xval_wpOp {call : XCall} (hcall : CallsOk P call) {ops : Array Oper} {o : Oper} {i N : Nat} {x : XOper} (ho : ops[i]? = some o) (hc : cOper P N ops o = some x) {v : Value} {H' : AH}
    (hx : xval P call x fr H = some (v, H')) (hr : HR P base W0 m H w) (hf : FrRel m fr a.tmps) (Q : Exit → Act → World → Prop) :
    wpOp P ops Q i (fun a' w' => ∃ m' v', a' = a.put o.dst v' ∧ HR P base W0 m' H' w' ∧ Fut m H w m' H' w' ∧ VRel m' v v') a w := by
  unfold xval at hx
  unfold wpOp
  simp only [ho]
  cases hw : xwanted fr x.gd with
  | none => simp [hw] at hx
  | some b =>
    obtain ⟨h1, h2, h3, h4⟩ := xwanted_sound hc hf hw
    rw [h1]
    cases b
    · simp only [hw, Option.some.injEq, Prod.mk.injEq] at hx
      obtain ⟨rfl, rfl⟩ := hx
      simp only [Bool.false_eq_true, if_false]
      exact ⟨m, undef, rfl, hr, .refl m H w, vrel_undef m⟩
    · simp only [hw] at hx
      simp only [if_true]
      left
      have h3 : cOp P o = some x.op := by
        unfold cOpF at h3
        cases hco : cOp P o with
        | some y => simp only [hco] at h3; rw [h3]
        | none =>
          simp only [hco] at h3
          rw [← h3] at hx
          simp [failOp, xop, ev] at hx
      have hall : o.op.operands.all (okOpnd P.globals.size) = true := by
        unfold cOp at h3
        cases hall : o.op.operands.all (okOpnd P.globals.size)
        · simp [hall] at h3
        · rfl
      have hraw : cRaw P o = some x.op := by
        unfold cOp at h3
        rw [hall] at h3
        exact h3
      -- the calls
      have hcallc : ∀ (f : FuncId) (vs : List Value) (args' : List Value), call f vs H = some (v, H') → LRel m vs args' → (execOp a.eval o).run P w = .ok (.enter f args'.toArray) w →
          o.wp P a w (fun a' w' => ∃ m' v', a' = a.put o.dst v' ∧ HR P base W0 m' H' w' ∧ Fut m H w m' H' w' ∧ VRel m' v v') Q := by
        intro f vs args' hcl hl hrun
        unfold Oper.wp
        rw [hrun, Oper.upon_enter]
        refine ((hcall f vs H v H' hcl).1 base W0 m w args' hr hl).mono ?_
        rintro e w' ⟨m', v', rfl, g1, g2, g3⟩
        exact ⟨m', v', rfl, g1, g2, g3⟩
      have hother : ∀ {op : XOp}, x.op = op → xop P fr H op = some (v, H') → o.wp P a w (fun a' w' => ∃ m' v', a' = a.put o.dst v' ∧ HR P base W0 m' H' w' ∧ Fut m H w m' H' w' ∧ VRel m' v v') Q := by
        intro op hop hxo
        subst hop
        obtain ⟨m', v', w', hrun, g1, g2, g3⟩ := xop_sound h3 hxo hr hf
        unfold Oper.wp
        rcases hrun with hrun | ⟨hrun, rfl⟩
        · rw [hrun, Oper.upon_value]; exact ⟨m', v', rfl, g1, g2, g3⟩
        · rw [hrun, Oper.upon_skip]; exact ⟨m', undef, rfl, g1, g2, g3⟩
      cases hxop : x.op with
      | call f args =>
        simp only [hxop] at hx
        split at hx
        · rename_i vs hvs
          rw [hxop] at hraw
          obtain ⟨c, hop, hcal, hargs⟩ := cRaw_call hraw
          obtain ⟨_, fn, cc, k1, k2, k3⟩ := hcall f vs H v H' hx
          have hl := LRel.evs hr hf (fun y hy => by
            rw [hop] at hall
            exact Array.all_eq_true'.1 hall y (by simp only [Op.operands, Call.operands]; exact Array.mem_append_right _ (by rw [← hargs] at hy; simpa using hy))) hvs
          refine hcallc f vs _ hx hl ?_
          have hargs' : (args.map a.eval).toArray = c.args.map a.eval := by rw [← hargs, ← Array.toList_map, Array.toArray_toList]
          rw [hargs']
          simp [execOp, hop, resolve, hcal, Act.eval, Deferred.ofValue, invoke, run_callFunc k1 k2 k3]
        · simp at hx
      | callv y args =>
        simp only [hxop] at hx
        split at hx
        · rename_i f first caps vs hy hvs
          rw [hxop] at hraw
          obtain ⟨c, hop, hcal, hargs⟩ := cRaw_callv hraw
          obtain ⟨_, fn, cc, k1, k2, k3⟩ := hcall _ _ H v H' hx
          have hok : ∀ z, z = y ∨ z ∈ args → okOpnd P.globals.size z = true := by
            intro z hz
            rw [hop] at hall
            refine Array.all_eq_true'.1 hall z ?_
            simp only [Op.operands, Call.operands, hcal]
            rcases hz with rfl | hz
            · exact Array.mem_append_left _ (by simp)
            · exact Array.mem_append_right _ (by rw [← hargs] at hz; simpa using hz)
          have hl := LRel.evs hr hf (fun z hz => hok z (.inr hz)) hvs
          have hv := ev_sound hr hf (hok y (.inl rfl)) hy
          generalize hq : a.eval y = q at hv
          cases hv with
          | func _ _ _ xs' ys' a1 b1 a2 b2 =>
            have l1 := LRel.of_agg a1 b1
            have l2 := LRel.of_agg a2 b2
            refine hcallc f _ (xs'.toList ++ args.map a.eval ++ ys'.toList) hx ((l1.append hl).append l2) ?_
            have hargs' : c.args.map a.eval = (args.map a.eval).toArray := by rw [← hargs, ← Array.toList_map, Array.toArray_toList]
            have : xs' ++ (args.map a.eval).toArray ++ ys' = (xs'.toList ++ args.map a.eval ++ ys'.toList).toArray := by
              apply Array.ext'
              simp
            simp only [execOp, hop, resolve, hcal, Sem.run_bind, hq, Deferred.ofValue, Sem.run_pure, Result.andThen_ok, invoke, hargs', this, run_callFunc k1 k2 k3]
        · simp at hx
      | _ => exact hother hxop (by simp only [hxop] at hx; exact hx)

end Go.Det
