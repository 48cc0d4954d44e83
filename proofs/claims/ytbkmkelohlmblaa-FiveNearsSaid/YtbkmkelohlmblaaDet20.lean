/- A part of a run of a program on a heap of its own, and that the machine does what that run says: no condition but those that each theorem names. -/
import Derived.Test.YtbkmkelohlmblaaDet19
set_option linter.unusedSimpArgs false
set_option linter.unusedVariables false
namespace Go.Det

/-! ### operations, each in one equation -/
def pPick (c a b : Value) (H : AH) : Option (Value × AH) :=
  match c with
  | .bool t => some (if t then a else b, H)
  | _ => none
def pLd (n : Option Nat) (a : Value) (H : AH) : Option (Value × AH) :=
  match a with
  | .pointer (some ⟨B, o, none⟩) => (H.get B).bind fun blk => (partV blk.cells o n).map fun v => (v, H)
  | _ => none
def pSt (n : Nat) (a v : Value) (H : AH) : Option (Value × AH) :=
  match a with
  | .pointer (some ⟨B, o, none⟩) => (H.get B).bind fun blk =>
    bif Nat.beq (vcells v).length n && (vcells v).all one && !blk.ro && Nat.ble (o + n) blk.cells.length then some (undef, H.set B { blk with cells := splice blk.cells o (vcells v) }) else none
  | _ => none
def pNil (a : Value) (H : AH) : Option (Value × AH) :=
  match a with
  | .pointer (some a) => some (.pointer (some a), H)
  | .func (.func f) xs ys => some (.func (.func f) xs ys, H)
  | _ => none
def pConv (k : IntKind) (a : Value) (H : AH) : Option (Value × AH) :=
  match a with
  | .int _ n => some (.int k (k.wrap n), H)
  | _ => none
def pFld (off : Nat) (n : Option Nat) (a : Value) (H : AH) : Option (Value × AH) :=
  match a with
  | .agg cs => (partV cs.toList off n).map fun v => (v, H)
  | _ => none
def pFldA (off : Nat) (a : Value) (H : AH) : Option (Value × AH) :=
  match a with
  | .pointer (some ⟨B, o, none⟩) => some (.pointer (some ⟨B, o + off, none⟩), H)
  | _ => none
def pIdx (sz : Nat) (a i : Value) (H : AH) : Option (Value × AH) :=
  match a, i with
  | .slice (some ⟨B, o, none⟩) l c, .int _ (.ofNat k) => bif Nat.blt k l && Nat.ble l c then some (.pointer (some ⟨B, o + k * sz, none⟩), H) else none
  | _, _ => none
def pLen (a : Value) (H : AH) : Option (Value × AH) :=
  match a with
  | .slice _ l _ => some (.int .i64 (Int.ofNat l), H)
  | _ => none
def pExt (i : Nat) (a : Value) (H : AH) : Option (Value × AH) :=
  match a with
  | .tuple vs => (vs.toList[i]?).map fun v => (v, H)
  | _ => none

variable {P : Program} {T : XTab} {fr : Fr} {H : AH}

theorem e_mov (x : Operand) : xop P fr H (.mov x) = (ev fr x).map fun v => (v, H) := by
  simp only [xop]; cases ev fr x <;> rfl
theorem e_pick (c a b : Operand) : xop P fr H (.pick c a b) = (ev fr c).bind fun c => match c with
    | .bool true => (ev fr a).map fun v => (v, H)
    | .bool false => (ev fr b).map fun v => (v, H)
    | _ => none := by
  simp only [xop]
  cases hc : ev fr c with
  | none => rfl
  | some v =>
    cases v <;> try rfl
    rename_i t
    cases t
    · simp only [Option.bind_some]; cases ev fr b <;> rfl
    · simp only [Option.bind_some]; cases ev fr a <;> rfl
theorem e_new (t : TypeId) (sz : Nat) (zs : List Value) : xop P fr H (.new t sz zs) = some (.pointer (some ⟨H.n, 0, none⟩), H.push ⟨zs, sz, false, false⟩) := rfl
theorem e_box (t : TypeId) (sz : Nat) (x : Operand) : xop P fr H (.box t sz x) = (ev fr x).map fun v => (.pointer (some ⟨H.n, 0, none⟩), H.push ⟨vcells v, sz, false, false⟩) := by
  simp only [xop]; cases ev fr x <;> rfl
theorem e_build (zs : List Value) (ps : List (Nat × Nat × Operand)) : xop P fr H (.build zs ps) = (xfill fr ps zs).map fun cs => (.agg cs.toArray, H) := by
  simp only [xop]; cases xfill fr ps zs <;> rfl
theorem e_bslice (e : TypeId) (sz n : Nat) (zs : List Value) (ps : List (Nat × Operand)) :
    xop P fr H (.bslice e sz n zs ps) = (xfill fr (ps.map fun p => (p.1 * sz, sz, p.2)) (rep n zs)).map fun cs => (.slice (some ⟨H.n, 0, none⟩) n n, H.push ⟨cs, sz, false, false⟩) := by
  simp only [xop]; cases xfill fr (ps.map fun p => (p.1 * sz, sz, p.2)) (rep n zs) <;> rfl
theorem e_ld (n : Option Nat) (a : Operand) : xop P fr H (.ld n a) = (ev fr a).bind fun v => pLd n v H := by
  simp only [xop]
  rcases ev fr a with _ | v
  · rfl
  cases v <;> try rfl
  rename_i p
  cases p <;> try rfl
  rename_i ad
  obtain ⟨B, o, s⟩ := ad
  cases s <;> try rfl
  simp only [Option.bind_some, pLd]
  cases hg : H.get B with
  | none => rfl
  | some blk =>
    simp only [Option.bind_some]
    cases partV blk.cells o n <;> rfl
theorem e_st (n : Nat) (a x : Operand) : xop P fr H (.st n a x) = (ev fr a).bind fun v => (ev fr x).bind fun u => pSt n v u H := by
  simp only [xop]
  rcases ev fr a with _ | v
  · rfl
  rcases ev fr x with _ | u
  · cases v <;> try rfl
    rename_i p
    cases p <;> try rfl
    rename_i ad
    obtain ⟨B, o, s⟩ := ad
    cases s <;> rfl
  cases v <;> try rfl
  rename_i p
  cases p <;> try rfl
  rename_i ad
  obtain ⟨B, o, s⟩ := ad
  cases s <;> try rfl
  simp only [Option.bind_some, pSt]
  cases hg : H.get B <;> rfl
theorem e_nilck (a : Operand) : xop P fr H (.nilck a) = (ev fr a).bind fun v => pNil v H := by
  simp only [xop]
  rcases ev fr a with _ | v
  · rfl
  cases v <;> try rfl
  · rename_i p
    cases p <;> rfl
  · rename_i f xs ys
    cases f <;> rfl
theorem e_bin (op : BinOp) (x y : Operand) : xop P fr H (.bin op x y) = (ev fr x).bind fun a => (ev fr y).bind fun b => (xbin op a b).map fun v => (v, H) := by
  simp only [xop]
  rcases ev fr x with _ | a
  · rfl
  rcases ev fr y with _ | b
  · rfl
  simp only [Option.bind_some]
  cases xbin op a b <;> rfl
theorem e_isnil (neg : Bool) (c : Value) (x : Operand) : xop P fr H (.isnil neg c x) = (ev fr x).bind fun a => (xisnil c a).map fun b => (.bool (if neg then !b else b), H) := by
  simp only [xop]
  rcases ev fr x with _ | a
  · rfl
  simp only [Option.bind_some]
  cases xisnil c a <;> rfl
def pCvs (v : Value) (H : AH) : Option (Value × AH) :=
  match v with
  | .slice (some ⟨B, o, none⟩) l c => match H.get B with
    | some blk => bif blk.ro || !(Nat.blt 0 c) then none else some (.slice (some ⟨B, o, none⟩) l c, H)
    | none => none
  | _ => none
theorem e_cvs (a : Operand) : xop P fr H (.cvs a) = (ev fr a).bind fun v => pCvs v H := by
  simp only [xop]
  rcases ev fr a with _ | v
  · rfl
  cases v <;> try rfl
  rename_i p l c
  cases p <;> try rfl
  rename_i ad
  obtain ⟨B, o, s⟩ := ad
  cases s <;> rfl
theorem pCvs_pushed (H : AH) (cs : List Value) (sz n : Nat) (opn : Bool) (hn : 0 < n) : pCvs (.slice (some ⟨H.n, 0, none⟩) n n) (H.push ⟨cs, sz, opn, false⟩) = some (.slice (some ⟨H.n, 0, none⟩) n n, H.push ⟨cs, sz, opn, false⟩) := by
  have hb : Nat.blt 0 n = true := by simp [Nat.blt]; omega
  simp only [pCvs, AH.get_push, if_true, hb]
  rfl
theorem e_conv (k : IntKind) (a : Operand) : xop P fr H (.conv k a) = (ev fr a).bind fun v => pConv k v H := by
  simp only [xop]
  rcases ev fr a with _ | v
  · rfl
  cases v <;> rfl
theorem e_fld (off : Nat) (n : Option Nat) (a : Operand) : xop P fr H (.fld off n a) = (ev fr a).bind fun v => pFld off n v H := by
  simp only [xop]
  rcases ev fr a with _ | v
  · rfl
  cases v <;> try rfl
  rename_i cs
  simp only [Option.bind_some, pFld]
  cases partV cs.toList off n <;> rfl
theorem e_fldA (off : Nat) (a : Operand) : xop P fr H (.fldA off a) = (ev fr a).bind fun v => pFldA off v H := by
  simp only [xop]
  rcases ev fr a with _ | v
  · rfl
  cases v <;> try rfl
  rename_i p
  cases p <;> try rfl
  rename_i ad
  obtain ⟨B, o, s⟩ := ad
  cases s <;> rfl
theorem e_idxA (sz : Nat) (x i : Operand) : xop P fr H (.idxA sz x i) = (ev fr x).bind fun a => (ev fr i).bind fun b => pIdx sz a b H := by
  simp only [xop]
  rcases ev fr x with _ | v
  · rfl
  rcases ev fr i with _ | u
  · cases v <;> try rfl
    rename_i p l c
    cases p <;> try rfl
    rename_i ad
    obtain ⟨B, o, s⟩ := ad
    cases s <;> rfl
  cases v <;> try rfl
  rename_i p l c
  cases p <;> try rfl
  rename_i ad
  obtain ⟨B, o, s⟩ := ad
  cases s <;> try rfl
  cases u <;> try rfl
  rename_i k n
  cases n <;> rfl
def pMks (sz bytes : Nat) (zs : List Value) (l c : Value) (H : AH) : Option (Value × AH) :=
  match l, c with
  | .int _ (.ofNat l), .int _ (.ofNat c) => bif Nat.ble l c && Nat.ble (c * bytes) 140737488355328 && Nat.ble c 140737488355328 then some (.slice (some ⟨H.n, 0, none⟩) l c, H.push ⟨rep c zs, sz, false, false⟩) else none
  | _, _ => none
theorem e_mks (e : TypeId) (sz bytes : Nat) (zs : List Value) (l c : Operand) : xop P fr H (.mks e sz bytes zs l c) = (ev fr l).bind fun l => (ev fr c).bind fun c => pMks sz bytes zs l c H := by
  simp only [xop]
  rcases ev fr l with _ | v
  · rfl
  rcases ev fr c with _ | u
  · cases v <;> try rfl
    rename_i k n
    cases n <;> rfl
  cases v <;> try rfl
  rename_i k n
  cases n <;> try rfl
  cases u <;> try rfl
  rename_i k' n'
  cases n' <;> rfl
theorem e_slc (sz : Nat) (x : Operand) (lo hi mx : Option Operand) : xop P fr H (.slc sz x lo hi mx) = (ev fr x).bind fun v => (optEv fr lo).bind fun a => (optEv fr hi).bind fun b => (optEv fr mx).bind fun c =>
    bif isSome' mx && !(isSome' hi) then none else (xslc H sz v a b c).map fun r => (r, H) := by
  simp only [xop]
  rcases ev fr x with _ | v
  · rfl
  rcases optEv fr lo with _ | a
  · rfl
  rcases optEv fr hi with _ | b
  · rfl
  rcases optEv fr mx with _ | c
  · rfl
  simp only [Option.bind_some]
  cases xslc H sz v a b c <;> rfl
theorem e_len (a : Operand) : xop P fr H (.len a) = (ev fr a).bind fun v => pLen v H := by
  simp only [xop]
  rcases ev fr a with _ | v
  · rfl
  cases v <;> rfl
theorem e_app (e : TypeId) (sz bytes : Nat) (zs : List Value) (x y : Operand) : xop P fr H (.app e sz bytes zs x y) = (ev fr x).bind fun a => (ev fr y).bind fun b => xapp H sz bytes a b := by
  simp only [xop]
  rcases ev fr x with _ | v
  · rfl
  rcases ev fr y with _ | u
  · rfl
  rfl
theorem e_appN (e : TypeId) (sz bytes : Nat) (zs : List Value) (x y : Operand) : xop P fr H (.appN e sz bytes zs x y) = (ev fr x).bind fun a => (ev fr y).bind fun b => xappN H sz bytes zs a b := by
  simp only [xop]
  rcases ev fr x with _ | v
  · rfl
  rcases ev fr y with _ | u
  · rfl
  rfl
theorem e_copy (sz : Nat) (x y : Operand) : xop P fr H (.copy sz x y) = (ev fr x).bind fun a => (ev fr y).bind fun b => xcopy H sz a b := by
  simp only [xop]
  rcases ev fr x with _ | v
  · rfl
  rcases ev fr y with _ | u
  · rfl
  rfl
theorem e_ext (x : Operand) (i : Nat) : xop P fr H (.ext x i) = (ev fr x).bind fun v => pExt i v H := by
  simp only [xop]
  rcases ev fr x with _ | v
  · rfl
  cases v <;> try rfl
  rename_i vs
  simp only [Option.bind_some, pExt]
  cases vs.toList[i]? <;> rfl
theorem e_flat (op : Op) (ty : TypeId) : xop P fr H (.flat op ty) = (xflat P fr op ty).map fun v => (v, H) := by
  simp only [xop]
  cases xflat P fr op ty <;> rfl

/-! ### runs with what is wanted behind them -/
def Ops (P : Program) (T : XTab) (xs : List XOper) (fr : Fr) (H : AH) (Q : Fr → AH → Prop) : Prop := ∃ fr' H', xops P (xc P T) xs fr H = some (fr', H') ∧ Q fr' H'
def Run (P : Program) (T : XTab) (c : XCode) (fr : Fr) (H : AH) (Q : XExit → Fr → AH → Prop) : Prop := ∃ e fr' H', xw P T c fr H = some (e, fr', H') ∧ Q e fr' H'
/-- a result, and what is wanted of it -/
def Got (o : Option (Value × AH)) (Q : Value → AH → Prop) : Prop := ∃ v H', o = some (v, H') ∧ Q v H'

def Wants (fr : Fr) (g : Option (Nat × Bool)) (A B : Prop) : Prop := ∃ b, xwanted fr g = some b ∧ (b = true → A) ∧ (b = false → B)

theorem wants_none (fr : Fr) (A B : Prop) : Wants fr none A B ↔ A := by
  unfold Wants; simp [xwanted]

theorem got_some (v : Value) (H : AH) (Q : Value → AH → Prop) : Got (some (v, H)) Q ↔ Q v H := by
  unfold Got
  constructor
  · rintro ⟨v', H', h, q⟩
    simp only [Option.some.injEq, Prod.mk.injEq] at h
    obtain ⟨rfl, rfl⟩ := h
    exact q
  · intro q; exact ⟨v, H, rfl, q⟩

def isCallOp : XOp → Bool
  | .call .. | .callv .. => true
  | _ => false

theorem ops_nil (fr : Fr) (H : AH) (Q : Fr → AH → Prop) : Ops P T [] fr H Q ↔ Q fr H := by
  unfold Ops
  simp only [xops]
  constructor
  · rintro ⟨a, b, h, q⟩
    simp only [Option.some.injEq, Prod.mk.injEq] at h
    obtain ⟨rfl, rfl⟩ := h
    exact q
  · intro q; exact ⟨fr, H, rfl, q⟩

theorem ops_val (x : XOper) (xs : List XOper) (fr : Fr) (H : AH) (Q : Fr → AH → Prop) :
    Ops P T (x :: xs) fr H Q ↔ Got (xval P (xc P T) x fr H) fun v H' => Ops P T xs (fr.put? x.dst v) H' Q := by
  unfold Ops Got
  simp only [xops]
  constructor
  · rintro ⟨a, b, h, q⟩
    split at h
    · rename_i v H' hv
      exact ⟨v, H', hv, a, b, h, q⟩
    · simp at h
  · rintro ⟨v, H', hv, a, b, h, q⟩
    exact ⟨a, b, by rw [hv]; exact h, q⟩

theorem xval_op (d : Option Nat) (op : XOp) (fr : Fr) (H : AH) (hn : isCallOp op = false) : xval P (xc P T) ⟨d, op, none⟩ fr H = xop P fr H op := by
  cases op <;> first
    | rfl
    | simp [isCallOp] at hn

theorem xval_call (d : Option Nat) (f : FuncId) (args : List Operand) (fr : Fr) (H : AH) : xval P (xc P T) ⟨d, .call f args, none⟩ fr H = (evs fr args).bind fun vs => xc P T f vs H := by
  unfold xval
  simp only [xwanted]
  cases evs fr args <;> rfl

/-- an operation that is always wanted -/
theorem ops_op (d : Option Nat) (op : XOp) (xs : List XOper) (fr : Fr) (H : AH) (Q : Fr → AH → Prop) (hn : isCallOp op = false) :
    Ops P T (⟨d, op, none⟩ :: xs) fr H Q ↔ Got (xop P fr H op) fun v H' => Ops P T xs (fr.put? d v) H' Q := by
  rw [ops_val, xval_op d op fr H hn]
theorem ops_call (d : Option Nat) (f : FuncId) (args : List Operand) (xs : List XOper) (fr : Fr) (H : AH) (Q : Fr → AH → Prop) :
    Ops P T (⟨d, .call f args, none⟩ :: xs) fr H Q ↔ Got ((evs fr args).bind fun vs => xc P T f vs H) fun v H' => Ops P T xs (fr.put? d v) H' Q := by
  rw [ops_val, xval_call]
/-- one that is wanted if a slot has a truth -/
theorem ops_wanted (d : Option Nat) (op : XOp) (k : Nat) (want : Bool) (xs : List XOper) (fr : Fr) (H : AH) (Q : Fr → AH → Prop) (b : Bool) (hb : fr.get k = some (.bool b)) :
    Ops P T (⟨d, op, some (k, want)⟩ :: xs) fr H Q ↔ (b = want → Ops P T (⟨d, op, none⟩ :: xs) fr H Q) ∧ (b = !want → Ops P T xs (fr.put? d undef) H Q) := by
  have hx : xval P (xc P T) ⟨d, op, some (k, want)⟩ fr H = if b = want then xval P (xc P T) ⟨d, op, none⟩ fr H else some (undef, H) := by
    unfold xval
    simp only [xwanted, hb]
    cases b <;> cases want <;> simp
  rw [ops_val, hx]
  cases b <;> cases want <;> simp [ops_val, got_some]

/-- the skipped value -/
theorem ops_skipped (d : Option Nat) (op : XOp) (k : Nat) (want : Bool) (xs : List XOper) (fr : Fr) (H : AH) (Q : Fr → AH → Prop) (hb : fr.get k = some undef) :
    Ops P T (⟨d, op, some (k, want)⟩ :: xs) fr H Q ↔ Ops P T xs (fr.put? d undef) H Q := by
  have hx : xval P (xc P T) ⟨d, op, some (k, want)⟩ fr H = some (undef, H) := by
    unfold xval
    simp only [xwanted, hb, undef]
    rfl
  rw [ops_val, hx, got_some]

/-! code -/
theorem xw_eq (c : XCode) (fr : Fr) (H : AH) : xw P T c fr H = xstep P T (xw P T) c fr H := congrFun (congrFun (congrFun (xw_step (P := P) (T := T)) c) fr) H

def thenQ (K : Fr → AH → Prop) (Q : XExit → Fr → AH → Prop) : XExit → Fr → AH → Prop
  | .normal, fr, H => K fr H
  | e, fr, H => Q e fr H
def blockQ (id : Nat) (Q : XExit → Fr → AH → Prop) : XExit → Fr → AH → Prop
  | .exit j, fr, H => bif Nat.beq j id then Q .normal fr H else Q (.exit j) fr H
  | e, fr, H => Q e fr H
def Cond (o : Option Value) (A B : Prop) : Prop := ∃ t, o = some (.bool t) ∧ (t = true → A) ∧ (t = false → B)

theorem thenQ_normal (K : Fr → AH → Prop) (Q : XExit → Fr → AH → Prop) (fr : Fr) (H : AH) : thenQ K Q .normal fr H ↔ K fr H := Iff.rfl
theorem thenQ_exit (K : Fr → AH → Prop) (Q : XExit → Fr → AH → Prop) (j : Nat) (fr : Fr) (H : AH) : thenQ K Q (.exit j) fr H ↔ Q (.exit j) fr H := Iff.rfl
theorem thenQ_ret (K : Fr → AH → Prop) (Q : XExit → Fr → AH → Prop) (fr : Fr) (H : AH) : thenQ K Q .ret fr H ↔ Q .ret fr H := Iff.rfl
theorem blockQ_normal (id : Nat) (Q : XExit → Fr → AH → Prop) (fr : Fr) (H : AH) : blockQ id Q .normal fr H ↔ Q .normal fr H := Iff.rfl
theorem blockQ_exit (id j : Nat) (Q : XExit → Fr → AH → Prop) (fr : Fr) (H : AH) : blockQ id Q (.exit j) fr H ↔ if j = id then Q .normal fr H else Q (.exit j) fr H := by
  simp only [blockQ, Tr.beq_eq]
  by_cases h : j = id <;> simp [h]
theorem blockQ_ret (id : Nat) (Q : XExit → Fr → AH → Prop) (fr : Fr) (H : AH) : blockQ id Q .ret fr H ↔ Q .ret fr H := Iff.rfl
theorem cond_some (t : Bool) (A B : Prop) : Cond (some (.bool t)) A B ↔ (t = true → A) ∧ (t = false → B) := by
  unfold Cond
  constructor
  · rintro ⟨t', h, a, b⟩
    simp only [Option.some.injEq, Value.bool.injEq] at h
    subst h
    exact ⟨a, b⟩
  · rintro ⟨a, b⟩; exact ⟨t, rfl, a, b⟩

theorem run_one {c : XCode} {fr fr' : Fr} {H H' : AH} {e : XExit} {Q : XExit → Fr → AH → Prop} (h : xstep P T (xw P T) c fr H = some (e, fr', H')) : Run P T c fr H Q ↔ Q e fr' H' := by
  unfold Run
  rw [xw_eq, h]
  constructor
  · rintro ⟨a, b, d, h, q⟩
    simp only [Option.some.injEq, Prod.mk.injEq] at h
    obtain ⟨rfl, rfl, rfl⟩ := h
    exact q
  · intro q; exact ⟨_, _, _, rfl, q⟩
theorem run_skip (fr : Fr) (H : AH) (Q : XExit → Fr → AH → Prop) : Run P T .skip fr H Q ↔ Q .normal fr H := run_one rfl
theorem run_exit (id : Nat) (fr : Fr) (H : AH) (Q : XExit → Fr → AH → Prop) : Run P T (.exit id) fr H Q ↔ Q (.exit id) fr H := run_one rfl
theorem run_ret (fr : Fr) (H : AH) (Q : XExit → Fr → AH → Prop) : Run P T .ret fr H Q ↔ Q .ret fr H := run_one rfl
theorem run_ops (l : List XOper) (keep : List Nat) (fr : Fr) (H : AH) (Q : XExit → Fr → AH → Prop) : Run P T (.ops l keep) fr H Q ↔ Ops P T l fr H fun fr' H' => Q .normal (fr'.keep keep) H' := by
  unfold Run Ops
  rw [xw_eq]
  simp only [xstep, show xcallOf T (xw P T) = xc P T from rfl]
  constructor
  · rintro ⟨a, b, d, h, q⟩
    split at h
    · rename_i fr' H' hv
      simp only [Option.some.injEq, Prod.mk.injEq] at h
      obtain ⟨rfl, rfl, rfl⟩ := h
      exact ⟨_, _, hv, q⟩
    · simp at h
  · rintro ⟨a, b, h, q⟩
    exact ⟨.normal, a.keep keep, b, by rw [h], q⟩
theorem run_seq (a b : XCode) (fr : Fr) (H : AH) (Q : XExit → Fr → AH → Prop) : Run P T (.seq a b) fr H Q ↔ Run P T a fr H (thenQ (fun fr H => Run P T b fr H Q) Q) := by
  unfold Run
  rw [xw_eq]
  simp only [xstep]
  constructor
  · rintro ⟨e, fr2, H2, h, q⟩
    cases hr : xw P T a fr H with
    | none => rw [hr] at h; simp at h
    | some r =>
      obtain ⟨e1, fr1, H1⟩ := r
      rw [hr] at h
      cases e1 with
      | normal => exact ⟨.normal, fr1, H1, rfl, e, fr2, H2, h, q⟩
      | exit j =>
        simp only [Option.some.injEq, Prod.mk.injEq] at h
        obtain ⟨rfl, rfl, rfl⟩ := h
        exact ⟨.exit j, fr1, H1, rfl, q⟩
      | ret =>
        simp only [Option.some.injEq, Prod.mk.injEq] at h
        obtain ⟨rfl, rfl, rfl⟩ := h
        exact ⟨.ret, fr1, H1, rfl, q⟩
  · rintro ⟨e1, fr1, H1, h, q⟩
    rw [h]
    cases e1 with
    | normal => exact q
    | exit j => exact ⟨_, _, _, rfl, q⟩
    | ret => exact ⟨_, _, _, rfl, q⟩
theorem run_cond (c : Operand) (a b : XCode) (fr : Fr) (H : AH) (Q : XExit → Fr → AH → Prop) : Run P T (.cond c a b) fr H Q ↔ Cond (ev fr c) (Run P T a fr H Q) (Run P T b fr H Q) := by
  unfold Run Cond
  rw [xw_eq]
  simp only [xstep]
  constructor
  · rintro ⟨e, fr2, H2, h, q⟩
    split at h
    · rename_i hv
      exact ⟨true, hv, fun _ => ⟨_, _, _, h, q⟩, fun h => by simp at h⟩
    · rename_i hv
      exact ⟨false, hv, fun h => by simp at h, fun _ => ⟨_, _, _, h, q⟩⟩
    · simp at h
  · rintro ⟨t, ht, h1, h2⟩
    rw [ht]
    cases t
    · exact h2 rfl
    · exact h1 rfl
theorem run_block (id : Nat) (c : XCode) (fr : Fr) (H : AH) (Q : XExit → Fr → AH → Prop) : Run P T (.block id c) fr H Q ↔ Run P T c fr H (blockQ id Q) := by
  unfold Run
  rw [xw_eq]
  simp only [xstep]
  constructor
  · rintro ⟨e, fr2, H2, h, q⟩
    cases hr : xw P T c fr H with
    | none => rw [hr] at h; simp at h
    | some r =>
      obtain ⟨e1, fr1, H1⟩ := r
      rw [hr] at h
      refine ⟨e1, fr1, H1, rfl, ?_⟩
      cases e1 with
      | normal =>
        simp only [Option.some.injEq, Prod.mk.injEq] at h
        obtain ⟨rfl, rfl, rfl⟩ := h
        exact q
      | exit j =>
        simp only [blockQ]
        cases hj : Nat.beq j id
        · simp only [hj, cond_false, Option.some.injEq, Prod.mk.injEq] at h
          obtain ⟨rfl, rfl, rfl⟩ := h
          exact q
        · simp only [hj, cond_true, Option.some.injEq, Prod.mk.injEq] at h
          obtain ⟨rfl, rfl, rfl⟩ := h
          exact q
      | ret =>
        simp only [Option.some.injEq, Prod.mk.injEq] at h
        obtain ⟨rfl, rfl, rfl⟩ := h
        exact q
  · rintro ⟨e1, fr1, H1, h, q⟩
    rw [h]
    cases e1 with
    | normal => exact ⟨_, _, _, rfl, q⟩
    | exit j =>
      simp only [blockQ] at q
      cases hj : Nat.beq j id
      · rw [hj] at q; exact ⟨_, _, _, by simp only [hj, cond_false], q⟩
      · rw [hj] at q; exact ⟨_, _, _, by simp only [hj, cond_true], q⟩
    | ret => exact ⟨_, _, _, rfl, q⟩
/-- a loop: its body, and then the loop again -/
theorem run_loop (c : XCode) (fr : Fr) (H : AH) (Q : XExit → Fr → AH → Prop) : Run P T (.loop c) fr H Q ↔ Run P T c fr H (thenQ (fun fr H => Run P T (.loop c) fr H Q) Q) := by
  constructor
  · rintro ⟨e, fr2, H2, h, q⟩
    rw [xw_eq] at h
    simp only [xstep] at h
    unfold Run
    cases hr : xw P T c fr H with
    | none => rw [hr] at h; simp at h
    | some r =>
      obtain ⟨e1, fr1, H1⟩ := r
      rw [hr] at h
      cases e1 with
      | normal => exact ⟨.normal, fr1, H1, rfl, e, fr2, H2, h, q⟩
      | exit j =>
        simp only [Option.some.injEq, Prod.mk.injEq] at h
        obtain ⟨rfl, rfl, rfl⟩ := h
        exact ⟨.exit j, fr1, H1, rfl, q⟩
      | ret =>
        simp only [Option.some.injEq, Prod.mk.injEq] at h
        obtain ⟨rfl, rfl, rfl⟩ := h
        exact ⟨.ret, fr1, H1, rfl, q⟩
  · rintro ⟨e1, fr1, H1, h, q⟩
    cases e1 with
    | normal =>
      obtain ⟨e, fr2, H2, h2, q2⟩ := q
      exact ⟨e, fr2, H2, by rw [xw_eq]; simp only [xstep, h]; exact h2, q2⟩
    | exit j => exact ⟨.exit j, fr1, H1, by rw [xw_eq]; simp only [xstep, h], q⟩
    | ret => exact ⟨.ret, fr1, H1, by rw [xw_eq]; simp only [xstep, h], q⟩
theorem Run.mono {c : XCode} {fr : Fr} {H : AH} {Q Q' : XExit → Fr → AH → Prop} (h : Run P T c fr H Q) (hq : ∀ e fr H, Q e fr H → Q' e fr H) : Run P T c fr H Q' := by
  obtain ⟨e, a, b, h, q⟩ := h
  exact ⟨e, a, b, h, hq _ _ _ q⟩
theorem Got.mono {o : Option (Value × AH)} {Q Q' : Value → AH → Prop} (h : Got o Q) (hq : ∀ v H, Q v H → Q' v H) : Got o Q' := by
  obtain ⟨a, b, h, q⟩ := h
  exact ⟨a, b, h, hq _ _ q⟩

/-- the end of a function -/
def retQ (res : List XRes) (Q : Value → AH → Prop) : XExit → Fr → AH → Prop
  | .ret, fr, H => ∃ v, xresult fr H res = some v ∧ Q v H
  | .normal, fr, H => ∃ v, xresult fr H res = some v ∧ Q v H
  | _, _, _ => False
theorem retQ_ret (res : List XRes) (Q : Value → AH → Prop) (fr : Fr) (H : AH) : retQ res Q .ret fr H ↔ ∃ v, xresult fr H res = some v ∧ Q v H := Iff.rfl
theorem retQ_normal (res : List XRes) (Q : Value → AH → Prop) (fr : Fr) (H : AH) : retQ res Q .normal fr H ↔ ∃ v, xresult fr H res = some v ∧ Q v H := Iff.rfl

theorem got_call {f : FuncId} {body : XCode} {res : List XRes} (hT : T f = some (.code body res)) {args : List Value} {H : AH} {Q : Value → AH → Prop} (h : Run P T body (ofArgs 0 args) H (retQ res Q)) : Got (xc P T f args H) Q := by
  obtain ⟨e, fr, H', h, q⟩ := h
  unfold xc xcallOf
  rw [hT]
  simp only [h]
  cases e with
  | normal =>
    obtain ⟨v, hv, q⟩ := q
    exact ⟨v, H', by simp only [hv], q⟩
  | exit j => exact q.elim
  | ret =>
    obtain ⟨v, hv, q⟩ := q
    exact ⟨v, H', by simp only [hv], q⟩

theorem map_some' {α β : Type} (f : α → β) (a : α) : (some a).map f = some (f a) := rfl
theorem ex_some (v : Value) (Q : Value → Prop) : (∃ u, some v = some u ∧ Q u) ↔ Q v := by
  constructor
  · rintro ⟨u, h, q⟩; cases h; exact q
  · intro q; exact ⟨v, rfl, q⟩
end Go.Det
