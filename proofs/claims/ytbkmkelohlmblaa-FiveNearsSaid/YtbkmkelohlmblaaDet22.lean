/- A part of a run of a program on a heap of its own, and that the machine does what that run says: no condition but those that each theorem names. -/
import Derived.Test.YtbkmkelohlmblaaDet21
set_option linter.unusedSimpArgs false
set_option linter.unusedVariables false
namespace Go.Det
variable {P : Program} {T : XTab}

/-! ### frames, for simp -/
theorem fr_get_cons (k i : Nat) (v : Value) (r : Fr) : Fr.get ((k, v) :: r) i = if k = i then some v else Fr.get r i := by
  simp only [Fr.get, Tr.beq_eq]
  by_cases h : k = i <;> simp [h]
theorem fr_put_nil (d : Nat) (v : Value) : Fr.put [] d v = [(d, v)] := rfl
theorem fr_put_cons (k d : Nat) (u v : Value) (r : Fr) : Fr.put ((k, u) :: r) d v = if k = d then (d, v) :: r else if d < k then (d, v) :: (k, u) :: r else (k, u) :: Fr.put r d v := by
  simp only [Fr.put, Tr.beq_eq]
  by_cases h : k = d
  · simp [h]
  · simp only [h, decide_false, cond_false, if_false]
    by_cases h2 : d < k
    · rw [blt_of h2]; simp [h2]
    · have : Nat.blt d k = false := by cases h3 : Nat.blt d k with
        | false => rfl
        | true => exact absurd (natlt h3) h2
      rw [this]; simp [h2]
theorem fr_put_some (fr : Fr) (d : Nat) (v : Value) : Fr.put? fr (some d) v = Fr.put fr d v := rfl
theorem fr_put_none (fr : Fr) (v : Value) : Fr.put? fr none v = fr := rfl
theorem fr_keep_nil (ks : List Nat) : Fr.keep [] ks = [] := rfl
theorem fr_has_nil (i : Nat) : Fr.has [] i = false := rfl
theorem fr_has_cons (k i : Nat) (ks : List Nat) : Fr.has (k :: ks) i = if k = i then true else Fr.has ks i := by
  simp only [Fr.has, Tr.beq_eq]
  by_cases h : k = i <;> simp [h]
theorem fr_keep_cons (k : Nat) (v : Value) (r : Fr) (ks : List Nat) : Fr.keep ((k, v) :: r) ks = if Fr.has ks k = true then (k, v) :: Fr.keep r ks else Fr.keep r ks := by
  simp only [Fr.keep]
  cases Fr.has ks k <;> simp

/-! ### regions whose order is drawn, where no read must be checked again -/
def Dops (P : Program) (T : XTab) : List XDop → Fr → AH → (Fr → AH → Prop) → Prop
  | [], fr, H, Q => Q fr H
  | d :: ds, fr, H, Q => Got (xval P (xc P T) d.x (fr.keep d.rd) H) fun v H' => Dops P T ds (fr.put? d.x.dst v) H' Q

theorem drun_of_dops : ∀ (ds : List XDop) (t : Nat) (fr : Fr) (H : AH) (hs : List (Nat × AH)) (Q : Fr → AH → Prop), ds.all (fun d => d.stab.isEmpty) = true → Dops P T ds fr H Q →
    ∃ r, drun P (xc P T) t ds fr H hs [] = some r ∧ r.cs = [] ∧ Q r.fr r.H
  | [], t, fr, H, hs, Q, _, h => ⟨⟨fr, H, hs, []⟩, rfl, rfl, h⟩
  | d :: ds, t, fr, H, hs, Q, ha, h => by
    simp only [List.all_cons, Bool.and_eq_true] at ha
    obtain ⟨v, H', hv, h⟩ := h
    obtain ⟨r, h1, h2, h3⟩ := drun_of_dops ds (t + 1) (fr.put? d.x.dst v) H' (bif Nat.ble 2 d.kind then (t + 1, H') :: hs else hs) Q ha.2 h
    refine ⟨r, ?_, h2, h3⟩
    simp only [drun, hv]
    have : d.stab = [] := by simpa using ha.1
    rw [this]
    exact h1

theorem run_dops (ds : List XDop) (keep : List Nat) (fr : Fr) (H : AH) (Q : XExit → Fr → AH → Prop) (ha : ds.all (fun d => d.stab.isEmpty) = true) (h : Dops P T ds fr H fun fr' H' => Q .normal (fr'.keep keep) H') :
    Run P T (.dops ds keep) fr H Q := by
  obtain ⟨r, h1, h2, h3⟩ := drun_of_dops ds 0 fr H [(0, H)] _ ha h
  refine ⟨.normal, r.fr.keep keep, r.H, ?_, h3⟩
  rw [xw_eq]
  simp only [xstep, show xcallOf T (xw P T) = xc P T from rfl, xdops, h1, h2, List.all_nil, cond_true]

theorem dops_nil (fr : Fr) (H : AH) (Q : Fr → AH → Prop) : Dops P T [] fr H Q ↔ Q fr H := Iff.rfl
theorem dops_op (d : Option Nat) (op : XOp) (rd : List Nat) (kd : Nat) (st : List Nat) (ds : List XDop) (fr : Fr) (H : AH) (Q : Fr → AH → Prop) (hn : isCallOp op = false) :
    Dops P T (.mk ⟨d, op, none⟩ rd kd st :: ds) fr H Q ↔ Got (xop P (fr.keep rd) H op) fun v H' => Dops P T ds (fr.put? d v) H' Q := by
  show Got (xval P (xc P T) ⟨d, op, none⟩ (fr.keep rd) H) _ ↔ _
  rw [xval_op d op _ H hn]
theorem dops_call (d : Option Nat) (f : FuncId) (args : List Operand) (rd : List Nat) (kd : Nat) (st : List Nat) (ds : List XDop) (fr : Fr) (H : AH) (Q : Fr → AH → Prop) :
    Dops P T (.mk ⟨d, .call f args, none⟩ rd kd st :: ds) fr H Q ↔ Got ((evs (fr.keep rd) args).bind fun vs => xc P T f vs H) fun v H' => Dops P T ds (fr.put? d v) H' Q := by
  show Got (xval P (xc P T) ⟨d, .call f args, none⟩ (fr.keep rd) H) _ ↔ _
  rw [xval_call]
theorem dops_wanted (d : Option Nat) (op : XOp) (k : Nat) (want : Bool) (rd : List Nat) (kd : Nat) (st : List Nat) (ds : List XDop) (fr : Fr) (H : AH) (Q : Fr → AH → Prop) (b : Bool) (hb : (fr.keep rd).get k = some (.bool b)) :
    Dops P T (.mk ⟨d, op, some (k, want)⟩ rd kd st :: ds) fr H Q ↔ (b = want → Dops P T (.mk ⟨d, op, none⟩ rd kd st :: ds) fr H Q) ∧ (b = !want → Dops P T ds (fr.put? d undef) H Q) := by
  have hx : xval P (xc P T) ⟨d, op, some (k, want)⟩ (fr.keep rd) H = if b = want then xval P (xc P T) ⟨d, op, none⟩ (fr.keep rd) H else some (undef, H) := by
    unfold xval
    simp only [xwanted, hb]
    cases b <;> cases want <;> simp
  show Got (xval P (xc P T) ⟨d, op, some (k, want)⟩ (fr.keep rd) H) _ ↔ (_ → Got (xval P (xc P T) ⟨d, op, none⟩ (fr.keep rd) H) _) ∧ _
  rw [hx]
  cases b <;> cases want <;> simp [got_some]

/-! ### operations without memory -/
variable {fr : Fr} {H : AH}

theorem flat_eq {op : Op} {t : TypeId} {v : Value} (ha : op.operands.all (evFlat fr) = true) (hr : pureRun P (execOp (fun x => (ev fr x).getD undef) (flatOper op t)) = some (.value v)) (hv : flatD 4 v = true) :
    xop P fr H (.flat op t) = some (v, H) := by
  simp only [xop, xflat, ha, hr, hv, cond_true]

theorem flat_min (x y : Operand) (t : TypeId) (ts : Array TypeId) (k : IntKind) (a b : Int) (hx : ev fr x = some (.int k a)) (hy : ev fr y = some (.int k b)) :
    xop P fr H (.flat (.call (.mk (.builtin .min) #[x, y] ts)) t) = some (.int k (if b < a then b else a), H) := by
  refine flat_eq ?_ ?_ rfl
  · simp [Op.operands, Call.operands, evFlat, hx, hy, flatD]
  · simp [execOp, flatOper, resolve, hx, hy, Deferred.ofValue, invoke, builtin, Builtin.min_, Builtin.min2, pureRun]; rfl

theorem flat_max (x y : Operand) (t : TypeId) (ts : Array TypeId) (k : IntKind) (a b : Int) (hx : ev fr x = some (.int k a)) (hy : ev fr y = some (.int k b)) :
    xop P fr H (.flat (.call (.mk (.builtin .max) #[x, y] ts)) t) = some (.int k (if a < b then b else a), H) := by
  refine flat_eq ?_ ?_ rfl
  · simp [Op.operands, Call.operands, evFlat, hx, hy, flatD]
  · simp [execOp, flatOper, resolve, hx, hy, Deferred.ofValue, invoke, builtin, Builtin.max_, Builtin.max2, pureRun]; rfl

theorem flat_not (x : Operand) (t t' : TypeId) (a : Bool) (hx : ev fr x = some (.bool a)) : xop P fr H (.flat (.unOp .not t x) t') = some (.bool (!a), H) := by
  refine flat_eq ?_ ?_ rfl
  · simp [Op.operands, evFlat, hx, flatD]
  · simp [execOp, flatOper, hx, pureRun]; rfl

theorem pureRun_bind {α β : Type} (f : α → Sem β) : ∀ (s : Sem α), pureRun P (s >>= f) = (pureRun P s).bind fun a => pureRun P (f a)
  | .pure a => rfl
  | .program k => pureRun_bind f (k P)
  | .mark _ k => pureRun_bind f k
  | .load .. | .store .. | .new .. | .shape .. | .freeze .. | .frozen .. | .getObj .. | .setObj .. | .choose .. | .sys .. | .halt _ => rfl
theorem pureRun_pure {α : Type} (a : α) : pureRun P (pure a) = some a := rfl
theorem pureRun_map {α β : Type} (f : α → β) (s : Sem α) : pureRun P (f <$> s) = (pureRun P s).map f := by
  rw [← bind_pure_comp, pureRun_bind]
  cases pureRun P s <;> rfl
theorem pureRun_underlying {t : TypeId} {d : TypeDesc} (hu : P.underlying t = some d) : pureRun P (underlying t) = some d := by
  unfold underlying
  rw [pureRun_bind]
  show (some P).bind _ = _
  simp [hu, pureRun_pure]

theorem flat_neg (x : Operand) (t t' : TypeId) (k : IntKind) (a : Int) (hx : ev fr x = some (.int k a)) : xop P fr H (.flat (.unOp .neg t x) t') = some (.int k (k.wrap (-a)), H) := by
  refine flat_eq ?_ ?_ rfl
  · simp [Op.operands, evFlat, hx, flatD]
  · simp [execOp, flatOper, hx, pureRun_map, Op.unary, Op.intArith, pureRun_pure]

theorem pureRun_eqb (d : Nat) {t : TypeId} (a b : Bool) (hu : P.underlying t = some .bool) : pureRun P (Op.equalIn (d + 1) t (.bool a) (.bool b)) = some (a == b) := by
  simp only [Op.equalIn, pureRun_bind, pureRun_underlying hu, Option.bind_some, pureRun_pure]
theorem flat_eqb (x y : Operand) (t t' ty : TypeId) (a b : Bool) (hu : P.underlying t = some .bool) (hx : ev fr x = some (.bool a)) (hy : ev fr y = some (.bool b)) : xop P fr H (.flat (.binOp .eql t x y ty) t') = some (.bool (a == b), H) := by
  refine flat_eq ?_ ?_ rfl
  · simp [Op.operands, evFlat, hx, hy, flatD]
  · simp [execOp, flatOper, hx, hy, eqGuard, binOp, Op.equal, show Op.maxDepth = 9999 + 1 from rfl, pureRun_bind, pureRun_map, pureRun_pure, pureRun_eqb 9999 a b hu]

/-! ### values of operations, for simp -/
theorem v_mov (dd : Option Nat) (x : Operand) : xval P (xc P T) ⟨dd, (.mov x), none⟩ fr H = (ev fr x).map fun v => (v, H) := (xval_op dd _ fr H rfl).trans (e_mov x)
theorem v_pick (dd : Option Nat) (c a b : Operand) : xval P (xc P T) ⟨dd, (.pick c a b), none⟩ fr H = (ev fr c).bind fun c => match c with
    | .bool true => (ev fr a).map fun v => (v, H)
    | .bool false => (ev fr b).map fun v => (v, H)
    | _ => none := (xval_op dd _ fr H rfl).trans (e_pick c a b)
theorem v_new (dd : Option Nat) (t : TypeId) (sz : Nat) (zs : List Value) : xval P (xc P T) ⟨dd, (.new t sz zs), none⟩ fr H = some (.pointer (some ⟨H.n, 0, none⟩), H.push ⟨zs, sz, false, false⟩) := (xval_op dd _ fr H rfl).trans (e_new t sz zs)
theorem v_box (dd : Option Nat) (t : TypeId) (sz : Nat) (x : Operand) : xval P (xc P T) ⟨dd, (.box t sz x), none⟩ fr H = (ev fr x).map fun v => (.pointer (some ⟨H.n, 0, none⟩), H.push ⟨vcells v, sz, false, false⟩) := (xval_op dd _ fr H rfl).trans (e_box t sz x)
theorem v_build (dd : Option Nat) (zs : List Value) (ps : List (Nat × Nat × Operand)) : xval P (xc P T) ⟨dd, (.build zs ps), none⟩ fr H = (xfill fr ps zs).map fun cs => (.agg cs.toArray, H) := (xval_op dd _ fr H rfl).trans (e_build zs ps)
theorem v_bslice (dd : Option Nat) (e : TypeId) (sz n : Nat) (zs : List Value) (ps : List (Nat × Operand)) : xval P (xc P T) ⟨dd, (.bslice e sz n zs ps), none⟩ fr H = (xfill fr (ps.map fun p => (p.1 * sz, sz, p.2)) (rep n zs)).map fun cs => (.slice (some ⟨H.n, 0, none⟩) n n, H.push ⟨cs, sz, false, false⟩) := (xval_op dd _ fr H rfl).trans (e_bslice e sz n zs ps)
theorem v_ld (dd : Option Nat) (n : Option Nat) (a : Operand) : xval P (xc P T) ⟨dd, (.ld n a), none⟩ fr H = (ev fr a).bind fun v => pLd n v H := (xval_op dd _ fr H rfl).trans (e_ld n a)
theorem v_st (dd : Option Nat) (n : Nat) (a x : Operand) : xval P (xc P T) ⟨dd, (.st n a x), none⟩ fr H = (ev fr a).bind fun v => (ev fr x).bind fun u => pSt n v u H := (xval_op dd _ fr H rfl).trans (e_st n a x)
theorem v_nilck (dd : Option Nat) (a : Operand) : xval P (xc P T) ⟨dd, (.nilck a), none⟩ fr H = (ev fr a).bind fun v => pNil v H := (xval_op dd _ fr H rfl).trans (e_nilck a)
theorem v_bin (dd : Option Nat) (op : BinOp) (x y : Operand) : xval P (xc P T) ⟨dd, (.bin op x y), none⟩ fr H = (ev fr x).bind fun a => (ev fr y).bind fun b => (xbin op a b).map fun v => (v, H) := (xval_op dd _ fr H rfl).trans (e_bin op x y)
theorem v_isnil (dd : Option Nat) (neg : Bool) (c : Value) (x : Operand) : xval P (xc P T) ⟨dd, (.isnil neg c x), none⟩ fr H = (ev fr x).bind fun a => (xisnil c a).map fun b => (.bool (if neg then !b else b), H) := (xval_op dd _ fr H rfl).trans (e_isnil neg c x)
theorem v_conv (dd : Option Nat) (k : IntKind) (a : Operand) : xval P (xc P T) ⟨dd, (.conv k a), none⟩ fr H = (ev fr a).bind fun v => pConv k v H := (xval_op dd _ fr H rfl).trans (e_conv k a)
theorem v_fld (dd : Option Nat) (off : Nat) (n : Option Nat) (a : Operand) : xval P (xc P T) ⟨dd, (.fld off n a), none⟩ fr H = (ev fr a).bind fun v => pFld off n v H := (xval_op dd _ fr H rfl).trans (e_fld off n a)
theorem v_fldA (dd : Option Nat) (off : Nat) (a : Operand) : xval P (xc P T) ⟨dd, (.fldA off a), none⟩ fr H = (ev fr a).bind fun v => pFldA off v H := (xval_op dd _ fr H rfl).trans (e_fldA off a)
theorem v_idxA (dd : Option Nat) (sz : Nat) (x i : Operand) : xval P (xc P T) ⟨dd, (.idxA sz x i), none⟩ fr H = (ev fr x).bind fun a => (ev fr i).bind fun b => pIdx sz a b H := (xval_op dd _ fr H rfl).trans (e_idxA sz x i)
theorem v_mks (dd : Option Nat) (e : TypeId) (sz bytes : Nat) (zs : List Value) (l c : Operand) : xval P (xc P T) ⟨dd, (.mks e sz bytes zs l c), none⟩ fr H = (ev fr l).bind fun l => (ev fr c).bind fun c => pMks sz bytes zs l c H := (xval_op dd _ fr H rfl).trans (e_mks e sz bytes zs l c)
theorem v_slc (dd : Option Nat) (sz : Nat) (x : Operand) (lo hi mx : Option Operand) : xval P (xc P T) ⟨dd, (.slc sz x lo hi mx), none⟩ fr H = (ev fr x).bind fun v => (optEv fr lo).bind fun a => (optEv fr hi).bind fun b => (optEv fr mx).bind fun c =>
    bif isSome' mx && !(isSome' hi) then none else (xslc H sz v a b c).map fun r => (r, H) := (xval_op dd _ fr H rfl).trans (e_slc sz x lo hi mx)
theorem v_len (dd : Option Nat) (a : Operand) : xval P (xc P T) ⟨dd, (.len a), none⟩ fr H = (ev fr a).bind fun v => pLen v H := (xval_op dd _ fr H rfl).trans (e_len a)
theorem v_app (dd : Option Nat) (e : TypeId) (sz bytes : Nat) (zs : List Value) (x y : Operand) : xval P (xc P T) ⟨dd, (.app e sz bytes zs x y), none⟩ fr H = (ev fr x).bind fun a => (ev fr y).bind fun b => xapp H sz bytes a b := (xval_op dd _ fr H rfl).trans (e_app e sz bytes zs x y)
theorem v_appN (dd : Option Nat) (e : TypeId) (sz bytes : Nat) (zs : List Value) (x y : Operand) : xval P (xc P T) ⟨dd, (.appN e sz bytes zs x y), none⟩ fr H = (ev fr x).bind fun a => (ev fr y).bind fun b => xappN H sz bytes zs a b := (xval_op dd _ fr H rfl).trans (e_appN e sz bytes zs x y)
theorem v_cvs (dd : Option Nat) (x : Operand) : xval P (xc P T) ⟨dd, (.cvs x), none⟩ fr H = (ev fr x).bind fun a => pCvs a H := (xval_op dd _ fr H rfl).trans (e_cvs x)
theorem v_copy (dd : Option Nat) (sz : Nat) (x y : Operand) : xval P (xc P T) ⟨dd, (.copy sz x y), none⟩ fr H = (ev fr x).bind fun a => (ev fr y).bind fun b => xcopy H sz a b := (xval_op dd _ fr H rfl).trans (e_copy sz x y)
theorem v_ext (dd : Option Nat) (x : Operand) (i : Nat) : xval P (xc P T) ⟨dd, (.ext x i), none⟩ fr H = (ev fr x).bind fun v => pExt i v H := (xval_op dd _ fr H rfl).trans (e_ext x i)
theorem v_flat (dd : Option Nat) (op : Op) (ty : TypeId) : xval P (xc P T) ⟨dd, (.flat op ty), none⟩ fr H = (xflat P fr op ty).map fun v => (v, H) := (xval_op dd _ fr H rfl).trans (e_flat op ty)
theorem ops_none (d : Option Nat) (op : XOp) (xs : List XOper) (fr : Fr) (H : AH) (Q : Fr → AH → Prop) :
    Ops P T (⟨d, op, none⟩ :: xs) fr H Q ↔ Got (xval P (xc P T) ⟨d, op, none⟩ fr H) fun v H' => Ops P T xs (fr.put? d v) H' Q := ops_val ..
theorem dops_none (d : Option Nat) (op : XOp) (rd : List Nat) (kd : Nat) (st : List Nat) (ds : List XDop) (fr : Fr) (H : AH) (Q : Fr → AH → Prop) :
    Dops P T (.mk ⟨d, op, none⟩ rd kd st :: ds) fr H Q ↔ Got (xval P (xc P T) ⟨d, op, none⟩ (fr.keep rd) H) fun v H' => Dops P T ds (fr.put? d v) H' Q := Iff.rfl
theorem xress_nil (fr : Fr) (H : AH) : xress fr H [] = some [] := rfl
theorem xress_tmp (fr : Fr) (H : AH) (t : Nat) (r : List XRes) : xress fr H (.tmp t :: r) = (fr.get t).bind fun v => (xress fr H r).map fun vs => v :: vs := by
  simp only [xress, xres]
  rcases fr.get t with _ | v
  · rfl
  rcases xress fr H r with _ | vs <;> rfl
def resV : List Value → Value
  | [v] => v
  | vs => .tuple vs.toArray
theorem xresult_eq (fr : Fr) (H : AH) (r : List XRes) : xresult fr H r = (xress fr H r).map resV := by
  unfold xresult
  rcases xress fr H r with _ | vs
  · rfl
  rcases vs with _ | ⟨v, vs⟩
  · rfl
  rcases vs with _ | ⟨u, vs⟩ <;> rfl
def pBs1 (v : Value) (H : AH) : Option (Value × AH) :=
  match v with
  | .int k a => some (.slice (some ⟨H.n, 0, none⟩) 1 1, H.push ⟨[.int k a], 1, false, false⟩)
  | .string a => some (.slice (some ⟨H.n, 0, none⟩) 1 1, H.push ⟨[.string a], 1, false, false⟩)
  | .bool a => some (.slice (some ⟨H.n, 0, none⟩) 1 1, H.push ⟨[.bool a], 1, false, false⟩)
  | .slice a l c => some (.slice (some ⟨H.n, 0, none⟩) 1 1, H.push ⟨[.slice a l c], 1, false, false⟩)
  | v => bif Nat.beq (vcells v).length 1 && (vcells v).all one then some (.slice (some ⟨H.n, 0, none⟩) 1 1, H.push ⟨vcells v, 1, false, false⟩) else none
/-- a slice of one thing -/
theorem v_bs1 (dd : Option Nat) (e : TypeId) (z : Value) (x : Operand) : xval P (xc P T) ⟨dd, .bslice e 1 1 [z] [(0, x)], none⟩ fr H = (ev fr x).bind fun v => pBs1 v H := by
  rw [xval_op dd _ fr H rfl, e_bslice]
  simp only [List.map_cons, List.map_nil, rep, List.append_nil, xfill]
  rcases ev fr x with _ | v
  · rfl
  simp only [Option.bind_some]
  have key : ∀ vs : List Value, (bif Nat.beq vs.length 1 && Nat.ble (0 * 1 + 1) [z].length && vs.all one then some (splice [z] (0 * 1) vs) else none) = (bif Nat.beq vs.length 1 && vs.all one then some vs else none) := by
    intro vs
    have e1 : Nat.ble (0 * 1 + 1) [z].length = true := rfl
    rw [e1, Bool.and_true]
    cases hc : Nat.beq vs.length 1 && vs.all one
    · rfl
    · simp only [cond_true]
      have hl := Nat.eq_of_beq_eq_true (Bool.and_eq_true_iff.1 hc).1
      have : splice [z] (0 * 1) vs = vs := by
        unfold splice
        rw [Nat.zero_mul, List.take_zero, Nat.zero_add, hl]; simp
      rw [this]
  rw [key]
  cases v <;> try rfl
  · rename_i cs
    simp only [pBs1]
    cases Nat.beq (vcells (.agg cs)).length 1 && (vcells (.agg cs)).all one <;> rfl
theorem evs_nil (fr : Fr) : evs fr [] = some [] := rfl
theorem evs_cons (fr : Fr) (x : Operand) (xs : List Operand) : evs fr (x :: xs) = (ev fr x).bind fun v => (evs fr xs).map fun vs => v :: vs := by
  simp only [evs]
  rcases ev fr x with _ | v
  · rfl
  rcases evs fr xs with _ | vs <;> rfl

/-- what a guard says -/
def WantQ (o : Option Value) (want : Bool) (A B : Prop) : Prop :=
  match o with
  | some (.bool b) => (b = want → A) ∧ (b = !want → B)
  | some (.tuple xs) => xs.size = 0 ∧ B
  | _ => False
theorem wantQ_bool (b want : Bool) (A B : Prop) : WantQ (some (.bool b)) want A B ↔ (b = want → A) ∧ (b = !want → B) := Iff.rfl
theorem wantQ_undef (want : Bool) (A B : Prop) : WantQ (some undef) want A B ↔ B := by
  show ((#[] : Array Value).size = 0 ∧ B) ↔ B
  simp
theorem got_want {d : Option Nat} {op : XOp} {k : Nat} {want : Bool} {fr : Fr} {H : AH} {Q : Value → AH → Prop} (h : WantQ (fr.get k) want (Got (xval P (xc P T) ⟨d, op, none⟩ fr H) Q) (Q undef H)) :
    Got (xval P (xc P T) ⟨d, op, some (k, want)⟩ fr H) Q := by
  unfold WantQ at h
  split at h
  · rename_i b hb
    have hx : xval P (xc P T) ⟨d, op, some (k, want)⟩ fr H = if b = want then xval P (xc P T) ⟨d, op, none⟩ fr H else some (undef, H) := by
      unfold xval
      simp only [xwanted, hb]
      cases b <;> cases want <;> simp
    rw [hx]
    cases b <;> cases want <;> simp_all [got_some]
  · rename_i xs hb
    have hx : xval P (xc P T) ⟨d, op, some (k, want)⟩ fr H = some (undef, H) := by
      unfold xval
      simp only [xwanted, hb, h.1]
      rfl
    rw [hx, got_some]; exact h.2
  · exact h.elim
theorem got_unwant {d : Option Nat} {op : XOp} {k : Nat} {want : Bool} {fr : Fr} {H : AH} {Q : Value → AH → Prop} (h : Got (xval P (xc P T) ⟨d, op, some (k, want)⟩ fr H) Q) :
    WantQ (fr.get k) want (Got (xval P (xc P T) ⟨d, op, none⟩ fr H) Q) (Q undef H) := by
  obtain ⟨v, H', h, q⟩ := h
  unfold xval at h
  unfold WantQ
  cases hg : fr.get k with
  | none => simp [xwanted, hg] at h
  | some u =>
    cases u <;> simp only [xwanted, hg] at h ⊢ <;> try (simp at h; done)
    · rename_i b
      cases b <;> cases want <;> simp_all <;> first
        | exact ⟨v, H', by unfold xval; simpa [xwanted] using h, q⟩
        | (obtain ⟨rfl, rfl⟩ := h; exact q)
    · rename_i xs
      cases hz : Nat.beq xs.size 0
      · simp [hz] at h
      · simp only [hz, cond_true, Option.some.injEq, Prod.mk.injEq] at h
        obtain ⟨rfl, rfl⟩ := h
        exact ⟨Nat.eq_of_beq_eq_true hz, q⟩
theorem ops_want (d : Option Nat) (op : XOp) (k : Nat) (want : Bool) (xs : List XOper) (fr : Fr) (H : AH) (Q : Fr → AH → Prop) :
    Ops P T (⟨d, op, some (k, want)⟩ :: xs) fr H Q ↔ WantQ (fr.get k) want (Ops P T (⟨d, op, none⟩ :: xs) fr H Q) (Ops P T xs (fr.put? d undef) H Q) := by
  rw [ops_val, ops_val]
  exact ⟨got_unwant, got_want⟩
theorem dops_want (d : Option Nat) (op : XOp) (k : Nat) (want : Bool) (rd : List Nat) (kd : Nat) (st : List Nat) (ds : List XDop) (fr : Fr) (H : AH) (Q : Fr → AH → Prop) :
    Dops P T (.mk ⟨d, op, some (k, want)⟩ rd kd st :: ds) fr H Q ↔ WantQ ((fr.keep rd).get k) want (Dops P T (.mk ⟨d, op, none⟩ rd kd st :: ds) fr H Q) (Dops P T ds (fr.put? d undef) H Q) :=
  ⟨got_unwant, got_want⟩

/-! decided guards and branches -/
theorem ops_wT {d : Option Nat} {op : XOp} {k : Nat} {xs : List XOper} {fr : Fr} {H : AH} {Q : Fr → AH → Prop} (h : fr.get k = some (.bool true)) : Ops P T (⟨d, op, some (k, true)⟩ :: xs) fr H Q ↔ Ops P T (⟨d, op, none⟩ :: xs) fr H Q := by
  rw [ops_want, h, wantQ_bool]; simp
theorem ops_wTn {d : Option Nat} {op : XOp} {k : Nat} {xs : List XOper} {fr : Fr} {H : AH} {Q : Fr → AH → Prop} (h : fr.get k = some (.bool false)) : Ops P T (⟨d, op, some (k, true)⟩ :: xs) fr H Q ↔ Ops P T xs (fr.put? d undef) H Q := by
  rw [ops_want, h, wantQ_bool]; simp
theorem ops_wF {d : Option Nat} {op : XOp} {k : Nat} {xs : List XOper} {fr : Fr} {H : AH} {Q : Fr → AH → Prop} (h : fr.get k = some (.bool false)) : Ops P T (⟨d, op, some (k, false)⟩ :: xs) fr H Q ↔ Ops P T (⟨d, op, none⟩ :: xs) fr H Q := by
  rw [ops_want, h, wantQ_bool]; simp
theorem ops_wFn {d : Option Nat} {op : XOp} {k : Nat} {xs : List XOper} {fr : Fr} {H : AH} {Q : Fr → AH → Prop} (h : fr.get k = some (.bool true)) : Ops P T (⟨d, op, some (k, false)⟩ :: xs) fr H Q ↔ Ops P T xs (fr.put? d undef) H Q := by
  rw [ops_want, h, wantQ_bool]; simp
theorem ops_wU {d : Option Nat} {op : XOp} {k : Nat} {want : Bool} {xs : List XOper} {fr : Fr} {H : AH} {Q : Fr → AH → Prop} (h : fr.get k = some undef) : Ops P T (⟨d, op, some (k, want)⟩ :: xs) fr H Q ↔ Ops P T xs (fr.put? d undef) H Q := by
  rw [ops_want, h, wantQ_undef]
theorem dops_wT {d : Option Nat} {op : XOp} {k : Nat} {rd : List Nat} {kd : Nat} {st : List Nat} {xs : List XDop} {fr : Fr} {H : AH} {Q : Fr → AH → Prop} (h : (fr.keep rd).get k = some (.bool true)) : Dops P T (.mk ⟨d, op, some (k, true)⟩ rd kd st :: xs) fr H Q ↔ Dops P T (.mk ⟨d, op, none⟩ rd kd st :: xs) fr H Q := by
  rw [dops_want, h, wantQ_bool]; simp
theorem dops_wTn {d : Option Nat} {op : XOp} {k : Nat} {rd : List Nat} {kd : Nat} {st : List Nat} {xs : List XDop} {fr : Fr} {H : AH} {Q : Fr → AH → Prop} (h : (fr.keep rd).get k = some (.bool false)) : Dops P T (.mk ⟨d, op, some (k, true)⟩ rd kd st :: xs) fr H Q ↔ Dops P T xs (fr.put? d undef) H Q := by
  rw [dops_want, h, wantQ_bool]; simp
theorem dops_wF {d : Option Nat} {op : XOp} {k : Nat} {rd : List Nat} {kd : Nat} {st : List Nat} {xs : List XDop} {fr : Fr} {H : AH} {Q : Fr → AH → Prop} (h : (fr.keep rd).get k = some (.bool false)) : Dops P T (.mk ⟨d, op, some (k, false)⟩ rd kd st :: xs) fr H Q ↔ Dops P T (.mk ⟨d, op, none⟩ rd kd st :: xs) fr H Q := by
  rw [dops_want, h, wantQ_bool]; simp
theorem dops_wFn {d : Option Nat} {op : XOp} {k : Nat} {rd : List Nat} {kd : Nat} {st : List Nat} {xs : List XDop} {fr : Fr} {H : AH} {Q : Fr → AH → Prop} (h : (fr.keep rd).get k = some (.bool true)) : Dops P T (.mk ⟨d, op, some (k, false)⟩ rd kd st :: xs) fr H Q ↔ Dops P T xs (fr.put? d undef) H Q := by
  rw [dops_want, h, wantQ_bool]; simp
theorem dops_wU {d : Option Nat} {op : XOp} {k : Nat} {want : Bool} {rd : List Nat} {kd : Nat} {st : List Nat} {xs : List XDop} {fr : Fr} {H : AH} {Q : Fr → AH → Prop} (h : (fr.keep rd).get k = some undef) : Dops P T (.mk ⟨d, op, some (k, want)⟩ rd kd st :: xs) fr H Q ↔ Dops P T xs (fr.put? d undef) H Q := by
  rw [dops_want, h, wantQ_undef]
theorem run_condT {c : Operand} {a b : XCode} {fr : Fr} {H : AH} {Q : XExit → Fr → AH → Prop} (h : ev fr c = some (.bool true)) : Run P T (.cond c a b) fr H Q ↔ Run P T a fr H Q := by
  rw [run_cond, h, cond_some]; simp
theorem run_condF {c : Operand} {a b : XCode} {fr : Fr} {H : AH} {Q : XExit → Fr → AH → Prop} (h : ev fr c = some (.bool false)) : Run P T (.cond c a b) fr H Q ↔ Run P T b fr H Q := by
  rw [run_cond, h, cond_some]; simp

def alt2 (o1 o2 : Option Value) (f : IntKind → Int → Int → Option (Value × AH)) (d : Option (Value × AH)) : Option (Value × AH) :=
  match o1, o2 with
  | some (.int k a), some (.int k' b) => if k = k' then f k a b else d
  | _, _ => d
theorem alt2_int (k : IntKind) (a b : Int) (f : IntKind → Int → Int → Option (Value × AH)) (d : Option (Value × AH)) : alt2 (some (.int k a)) (some (.int k b)) f d = f k a b := by simp [alt2]
def altB (o1 : Option Value) (f : Bool → Option (Value × AH)) (d : Option (Value × AH)) : Option (Value × AH) :=
  match o1 with
  | some (.bool a) => f a
  | _ => d
theorem altB_bool (a : Bool) (f : Bool → Option (Value × AH)) (d : Option (Value × AH)) : altB (some (.bool a)) f d = f a := rfl
def altI (o1 : Option Value) (f : IntKind → Int → Option (Value × AH)) (d : Option (Value × AH)) : Option (Value × AH) :=
  match o1 with
  | some (.int k a) => f k a
  | _ => d
theorem altI_int (k : IntKind) (a : Int) (f : IntKind → Int → Option (Value × AH)) (d : Option (Value × AH)) : altI (some (.int k a)) f d = f k a := rfl
def altBB (o1 o2 : Option Value) (f : Bool → Bool → Option (Value × AH)) (d : Option (Value × AH)) : Option (Value × AH) :=
  match o1, o2 with
  | some (.bool a), some (.bool b) => f a b
  | _, _ => d
theorem altBB_bool (a b : Bool) (f : Bool → Bool → Option (Value × AH)) (d : Option (Value × AH)) : altBB (some (.bool a)) (some (.bool b)) f d = f a b := rfl

theorem v_min (dd : Option Nat) (x y : Operand) (t : TypeId) (ts : Array TypeId) : xval P (xc P T) ⟨dd, .flat (.call (.mk (.builtin .min) #[x, y] ts)) t, none⟩ fr H =
    alt2 (ev fr x) (ev fr y) (fun k a b => some (.int k (if b < a then b else a), H)) (xop P fr H (.flat (.call (.mk (.builtin .min) #[x, y] ts)) t)) := by
  rw [xval_op dd _ fr H rfl]
  unfold alt2
  split
  · rename_i k a k' b h1 h2
    split
    · rename_i h; subst h; exact flat_min x y t ts k a b h1 h2
    · rfl
  · rfl
theorem v_max (dd : Option Nat) (x y : Operand) (t : TypeId) (ts : Array TypeId) : xval P (xc P T) ⟨dd, .flat (.call (.mk (.builtin .max) #[x, y] ts)) t, none⟩ fr H =
    alt2 (ev fr x) (ev fr y) (fun k a b => some (.int k (if a < b then b else a), H)) (xop P fr H (.flat (.call (.mk (.builtin .max) #[x, y] ts)) t)) := by
  rw [xval_op dd _ fr H rfl]
  unfold alt2
  split
  · rename_i k a k' b h1 h2
    split
    · rename_i h; subst h; exact flat_max x y t ts k a b h1 h2
    · rfl
  · rfl
theorem v_not (dd : Option Nat) (x : Operand) (t t' : TypeId) : xval P (xc P T) ⟨dd, .flat (.unOp .not t x) t', none⟩ fr H = altB (ev fr x) (fun a => some (.bool (!a), H)) (xop P fr H (.flat (.unOp .not t x) t')) := by
  rw [xval_op dd _ fr H rfl]
  unfold altB
  split
  · rename_i a h; exact flat_not x t t' a h
  · rfl
theorem v_neg (dd : Option Nat) (x : Operand) (t t' : TypeId) : xval P (xc P T) ⟨dd, .flat (.unOp .neg t x) t', none⟩ fr H = altI (ev fr x) (fun k a => some (.int k (k.wrap (-a)), H)) (xop P fr H (.flat (.unOp .neg t x) t')) := by
  rw [xval_op dd _ fr H rfl]
  unfold altI
  split
  · rename_i k a h; exact flat_neg x t t' k a h
  · rfl
theorem v_eqb {t : TypeId} (hu : P.underlying t = some .bool) (dd : Option Nat) (x y : Operand) (t' ty : TypeId) : xval P (xc P T) ⟨dd, .flat (.binOp .eql t x y ty) t', none⟩ fr H =
    altBB (ev fr x) (ev fr y) (fun a b => some (.bool (a == b), H)) (xop P fr H (.flat (.binOp .eql t x y ty) t')) := by
  rw [xval_op dd _ fr H rfl]
  unfold altBB
  split
  · rename_i a b h1 h2; exact flat_eqb x y t t' ty a b hu h1 h2
  · rfl
theorem optEv_none (fr : Fr) : optEv fr none = some none := rfl
theorem optEv_some (fr : Fr) (x : Operand) : optEv fr (some x) = (ev fr x).map some := by
  simp only [optEv]
  rcases ev fr x with _ | v <;> rfl
theorem isSome'_none : isSome' none = false := rfl
theorem isSome'_some (x : Operand) : isSome' (some x) = true := rfl
theorem pExt0 (a : Value) (l : List Value) (H : AH) : pExt 0 (.tuple (a :: l).toArray) H = some (a, H) := rfl
theorem pExt1 (a b : Value) (l : List Value) (H : AH) : pExt 1 (.tuple (a :: b :: l).toArray) H = some (b, H) := rfl
theorem pExt2 (a b c : Value) (l : List Value) (H : AH) : pExt 2 (.tuple (a :: b :: c :: l).toArray) H = some (c, H) := rfl
theorem v_bs2 (dd : Option Nat) (e : TypeId) (z : Value) (k k' : IntKind) (a b : Int) : xval P (xc P T) ⟨dd, .bslice e 1 2 [z] [(0, .const (.int k a)), (1, .const (.int k' b))], none⟩ fr H = some (.slice (some ⟨H.n, 0, none⟩) 2 2, H.push ⟨[.int k a, .int k' b], 1, false, false⟩) := rfl

/-! ### numbers -/
theorem wrI (n : Int) (h0 : -9223372036854775808 ≤ n) (h1 : n < 9223372036854775808) : IntKind.i64.wrap n = n := by
  show (if (true && decide (n % (2 ^ 64 : Int) ≥ (2 ^ 63 : Int))) = true then n % (2 ^ 64 : Int) - (2 ^ 64 : Int) else n % (2 ^ 64 : Int)) = n
  rw [show (2 : Int) ^ 64 = 18446744073709551616 from rfl, show (2 : Int) ^ 63 = 9223372036854775808 from rfl]
  simp only [Bool.true_and, decide_eq_true_eq]
  split <;> omega

theorem Ints.keep {n0 : Nat} {H H' : AH} {s : Value} {l : List Int} (hs : Ints H s l) (hk : Keep n0 H H') (hb : ∀ b, inB s b → b < n0) : Ints H' s l := Sl.keep hk hs hb
theorem Ints.app1 {H : AH} {s : Value} {pre rest : List Int} {a : Int} (hs : Ints H s (pre ++ a :: rest)) : Ints H s ((pre ++ [a]) ++ rest) := by
  rw [List.append_assoc]; exact hs
theorem OwnI.ints {n0 : Nat} {H : AH} {v : Value} {l : List Int} (h : OwnI n0 H v l) : Ints H v l := h.1
theorem Ints.lt {H : AH} {s : Value} {l : List Int} (hs : Ints H s l) : ∀ b, inB s b → b < H.n := fun b hb => Sl.lt hs hb
theorem ints_len {H : AH} {s : Value} {l : List Int} (hs : Ints H s l) : pLen s H = some (.int .i64 (l.length : Int), H) := pLen_ok hs

end Go.Det
