/- A part of a run of a program on a heap of its own, and that the machine does what that run says: no condition but those that each theorem names. -/
import Derived.Test.YtbkmkelohlmblaaDet5
set_option linter.unusedSimpArgs false
set_option linter.unusedVariables false
namespace Go.Det

variable {P : Program} {G base : Nat} {W0 : World} {m : Mp} {H : AH} {w : World} {fr : Fr} {a : Act} {o : Oper}

theorem ok_flat {op : Op} {ty : TypeId} (hop : o.op = op) (hty : o.type = ty) (hs : ∀ cs b, op ≠ .select cs b) (hr : HRel G base W0 m H w) (hf : FrRel m fr a.tmps)
    (ho : op.operands.all (okOpnd G) = true) {v : Value} (hx : xflat P fr op ty = some v) : OpOk P G base W0 o a w m H v H := by
  unfold xflat at hx
  cases hall : op.operands.all (evFlat fr)
  · simp [hall] at hx
  · simp only [hall, cond_true] at hx
    have hρ : ∀ x ∈ op.operands, (ev fr x).getD undef = a.eval x := by
      intro x hxm
      have h1 := Array.all_eq_true'.1 hall x hxm
      unfold evFlat at h1
      cases he : ev fr x with
      | none => simp [he] at h1
      | some u =>
        simp [he] at h1
        have := flatD_eq 4 _ _ h1 (ev_sound hr hf (Array.all_eq_true'.1 ho x hxm) he)
        simpa using this
    have hex : execOp a.eval o = execOp (fun x => (ev fr x).getD undef) (flatOper op ty) := by
      have h2 : execOp a.eval o = execOp a.eval (flatOper op ty) := by
        obtain ⟨d, op', ty', p, af, g⟩ := o
        change op' = op at hop
        change ty' = ty at hty
        subst hop hty
        rfl
      rw [h2]
      refine (execOp_congr (flatOper op ty) (by simpa [flatOper] using hs) ?_).symm
      intro x hx'
      exact hρ x hx'
    cases hp : pureRun P (execOp (fun x => (ev fr x).getD undef) (flatOper op ty)) with
    | none => simp [hp] at hx
    | some nx =>
      simp only [hp] at hx
      cases nx <;> simp at hx
      rename_i u
      cases hfl : flatD 4 u
      · simp [hfl] at hx
      · simp [hfl] at hx
        subst hx
        refine .same hr (v' := u) ?_ (flatD_refl m 4 u hfl)
        rw [hex]
        exact pureRun_run P w _ _ hp

theorem ok_len {t : TypeId} {x : Operand} {c : Call} (hop : o.op = .call c) (hc : c.callee = .builtin .len) (ht : c.argTypes[0]? = some t) (hargs : c.args.toList = [x])
    (hu : (∃ e, P.underlying t = some (.slice e)) ∨ P.underlying t = some .string) (hr : HRel G base W0 m H w) (hf : FrRel m fr a.tmps) (ho : okOpnd G x = true)
    {v : Value} {n : Nat} (hx : ev fr x = some v) (hv : (∃ ad cc, v = .slice ad n cc) ∧ (∃ e, P.underlying t = some (.slice e)) ∨ (∃ s : ByteArray, v = .string s ∧ s.size = n) ∧ P.underlying t = some .string) :
    OpOk P G base W0 o a w m H (.int .i64 (Int.ofNat n)) H := by
  have h := ev_sound hr hf ho hx
  have hargs' : c.args = #[x] := by rw [← Array.toArray_toList (xs := c.args), hargs]
  refine .same hr (v' := .int .i64 (Int.ofNat n)) ?_ (.int _ _)
  rcases hv with ⟨⟨ad, cc, rfl⟩, e, he⟩ | ⟨⟨s, rfl, rfl⟩, he⟩
  · have : ∃ ad' cc', a.eval x = .slice ad' n cc' := by
      generalize a.eval x = y at h
      cases h <;> exact ⟨_, _, rfl⟩
    obtain ⟨ad', cc', hq⟩ := this
    simp [execOp, hop, resolve, hc, hargs', invoke, builtin, Builtin.len_, ht, underlying, he, hq, goInt]
  · have hq := flatD_eq 4 _ _ rfl h
    simp [execOp, hop, resolve, hc, hargs', invoke, builtin, Builtin.len_, ht, underlying, he, ← hq, goInt]

theorem ok_cap {t : TypeId} {x : Operand} {c : Call} (hop : o.op = .call c) (hc : c.callee = .builtin .cap) (ht : c.argTypes[0]? = some t) (hargs : c.args.toList = [x])
    {e : TypeId} (hu : P.underlying t = some (.slice e)) (hr : HRel G base W0 m H w) (hf : FrRel m fr a.tmps) (ho : okOpnd G x = true)
    {v : Value} {n : Nat} (hx : ev fr x = some v) (hv : (v = .slice none 0 0 ∧ n = 0) ∨ ∃ B off l blk, v = .slice (some ⟨B, off, none⟩) l n ∧ H.get B = some blk ∧ (blk.opn = false ∨ off + n * blk.sz < blk.cells.length)) :
    OpOk P G base W0 o a w m H (.int .i64 (Int.ofNat n)) H := by
  have h := ev_sound hr hf ho hx
  have hargs' : c.args = #[x] := by rw [← Array.toArray_toList (xs := c.args), hargs]
  refine .same hr (v' := .int .i64 (Int.ofNat n)) ?_ (.int _ _)
  have : ∃ ad' l', a.eval x = .slice ad' l' n := by
    rcases hv with ⟨rfl, rfl⟩ | ⟨B, off, l, blk, rfl, hb, hex⟩
    · have hq := flatD_eq 4 _ _ rfl h
      exact ⟨_, _, hq.symm⟩
    · obtain ⟨en, hen, hk⟩ := hr.live B blk hb
      generalize a.eval x = y at h
      cases h with
      | sl _ _ _ _ c' e' he h0 h1 h2 h3 h4 h5 =>
        obtain rfl : e' = en := by rw [hen] at he; exact (Option.some.inj he).symm
        obtain rfl := h3 (by rw [Ent.exact, hk.opn, hk.sz, hk.kn]; exact hex)
        exact ⟨_, _, rfl⟩
      | sl0 _ _ c' ad e' he h1 h2 h3 =>
        obtain rfl : e' = en := by rw [hen] at he; exact (Option.some.inj he).symm
        obtain rfl := h1 (by rw [Ent.exact, hk.opn, hk.sz, hk.kn]; exact hex)
        exact ⟨_, _, rfl⟩
  obtain ⟨ad', l', hq⟩ := this
  simp [execOp, hop, resolve, hc, hargs', invoke, builtin, Builtin.cap_, ht, underlying, hu, hq, goInt]

theorem ok_ext {x : Operand} {i : Nat} (hop : o.op = .extract x i) (hr : HRel G base W0 m H w) (hf : FrRel m fr a.tmps) (ho : okOpnd G x = true) {vs : Array Value} {v : Value}
    (hx : ev fr x = some (.tuple vs)) (hv : vs.toList[i]? = some v) : OpOk P G base W0 o a w m H v H := by
  have h := ev_sound hr hf ho hx
  generalize hq : a.eval x = y at h
  cases h with
  | tuple _ ys hs hxs =>
    obtain ⟨v', h1, h2⟩ := (LRel.of_agg hs hxs).2 i v hv
    refine .same hr (v' := v') ?_ h2
    have h1' : ys[i]? = some v' := by simpa using h1
    simp [execOp, hop, Instr.extract, hq, h1']

theorem ok_mkI {t : TypeId} {x : Operand} {d : TypeDesc} (hop : o.op = .makeInterface t x) (hd : P.underlying t = some d) (hd2 : ∀ ms, d ≠ .interface ms) (hr : HRel G base W0 m H w) (hf : FrRel m fr a.tmps)
    (ho : okOpnd G x = true) {v : Value} (hx : ev fr x = some v) : OpOk P G base W0 o a w m H (.iface t v) H := by
  refine .same hr (v' := .iface t (a.eval x)) ?_ (.iface _ _ _ (ev_sound hr hf ho hx))
  cases d <;> simp_all [execOp, Instr.makeInterface, underlying]

theorem ok_mkf {fn : Fn} {f1 c1 : Array Operand} (hop : o.op = .makeFunc fn f1 c1) (hr : HRel G base W0 m H w) (hf : FrRel m fr a.tmps) (ho1 : ∀ x ∈ f1.toList, okOpnd G x = true)
    (ho2 : ∀ x ∈ c1.toList, okOpnd G x = true) {xs ys : List Value} (h1 : evs fr f1.toList = some xs) (h2 : evs fr c1.toList = some ys) :
    OpOk P G base W0 o a w m H (.func fn xs.toArray ys.toArray) H := by
  have k1 := LRel.evs hr hf ho1 h1
  have k2 := LRel.evs hr hf ho2 h2
  refine .same hr (v' := .func fn (f1.map a.eval) (c1.map a.eval)) (by simp [execOp, hop, Instr.makeFunc]) ?_
  have t1 := k1.to_tuple
  have t2 := k2.to_tuple
  have e1 : (f1.toList.map a.eval).toArray = f1.map a.eval := by rw [← Array.toList_map, Array.toArray_toList]
  have e2 : (c1.toList.map a.eval).toArray = c1.map a.eval := by rw [← Array.toList_map, Array.toArray_toList]
  rw [e1] at t1; rw [e2] at t2
  cases t1 with
  | tuple _ _ a1 b1 => cases t2 with
    | tuple _ _ a2 b2 => exact .func _ _ _ _ _ a1 b1 a2 b2

theorem ok_fld {t : TypeId} {x : Operand} {i : Nat} {fs : Array Field} {f : Field} {n : Option Nat} (hop : o.op = .field t x i) (hu : P.underlying t = some (.struct fs)) (hfi : fs[i]? = some f)
    (hn : aggSize P f.type = some n) (hr : HRel G base W0 m H w) (hf : FrRel m fr a.tmps) (ho : okOpnd G x = true) {cs : Array Value} {v : Value} (hx : ev fr x = some (.agg cs))
    (hp : partV cs.toList f.offset n = some v) : OpOk P G base W0 o a w m H v H := by
  have h := ev_sound hr hf ho hx
  generalize hq : a.eval x = y at h
  cases h with
  | agg _ ys hs hxs =>
    have hl := LRel.of_agg hs hxs
    have hpr := partV_rel hl hp
    obtain ⟨ha, hsz⟩ := run_isAgg hn w
    cases n with
    | none =>
      obtain ⟨v', h1, h2⟩ := hpr
      have h1' : ys[f.offset]? = some v' := by simpa using h1
      refine .same hr (v' := v') ?_ h2
      simp [execOp, hop, Instr.field, underlying, hu, hfi, hq, asAgg, part, ha, h1']
    | some k =>
      obtain ⟨_, _, h3⟩ := hpr
      refine .same hr (v' := _) ?_ h3
      have : ys.extract f.offset (f.offset + k) = (List.take k (List.drop f.offset ys.toList)).toArray := by
        apply Array.ext'
        simp [List.extract_eq_take_drop]
      simp [execOp, hop, Instr.field, underlying, hu, hfi, hq, asAgg, part, ha, hsz k rfl, this]

theorem ok_idxV {t e : TypeId} {x y : Operand} {len sz k : Nat} {ik : IntKind} {n : Option Nat} (hop : o.op = .index t x y) (hu : P.underlying t = some (.array len e)) (hsz : sizeAt P e = some sz)
    (hn : aggSize P e = some n) (hr : HRel G base W0 m H w) (hf : FrRel m fr a.tmps) (hox : okOpnd G x = true) (hoy : okOpnd G y = true) {cs : Array Value} {v : Value} (hx : ev fr x = some (.agg cs))
    (hy : ev fr y = some (.int ik (.ofNat k))) (hk : k < len) (hp : partV cs.toList (k * sz) n = some v) : OpOk P G base W0 o a w m H v H := by
  have h := ev_sound hr hf hox hx
  have e2 := flatD_eq 4 _ _ rfl (ev_sound hr hf hoy hy)
  generalize hq : a.eval x = z at h
  cases h with
  | agg _ ys hs hxs =>
    have hl := LRel.of_agg hs hxs
    have hpr := partV_rel hl hp
    obtain ⟨ha, hsz2⟩ := run_isAgg hn w
    cases n with
    | none =>
      obtain ⟨v', h1, h2⟩ := hpr
      have h1' : ys[k * sz]? = some v' := by simpa using h1
      refine .same hr (v' := v') ?_ h2
      simp [execOp, hop, Instr.index, underlying, hu, hq, ← e2, asIntOf, part, ha, h1', hk, run_sizeOf' hsz]
    | some j =>
      obtain ⟨_, _, h3⟩ := hpr
      refine .same hr (v' := _) ?_ h3
      have : ys.extract (k * sz) (k * sz + j) = (List.take j (List.drop (k * sz) ys.toList)).toArray := by
        apply Array.ext'
        simp [List.extract_eq_take_drop]
      have hj : sz = j := by
        have h1 := run_sizeOf' hsz w
        rw [hsz2 j rfl] at h1
        simp at h1; exact h1.symm
      subst hj
      simp [execOp, hop, Instr.index, underlying, hu, hq, ← e2, asIntOf, part, ha, hk, run_sizeOf' hsz, this]


theorem maxD : ∃ d, Op.maxDepth = d + 1 := ⟨9999, rfl⟩

theorem eqn_ptr {t e : TypeId} (hu : P.underlying t = some (.pointer e)) (p : Option Addr) (w : World) : (Op.equal t (.pointer p) (.pointer none)).run P w = .ok p.isNone w := by
  obtain ⟨d, hd⟩ := maxD
  unfold Op.equal; rw [hd]
  cases p <;> simp [Op.equalIn, run_underlying hu]
theorem eqn_slice {t e : TypeId} (hu : P.underlying t = some (.slice e)) (p : Option Addr) (l c : Nat) (w : World) : (Op.equal t (.slice p l c) (.slice none 0 0)).run P w = .ok p.isNone w := by
  obtain ⟨d, hd⟩ := maxD
  unfold Op.equal; rw [hd]
  cases p <;> simp [Op.equalIn, run_underlying hu]
theorem eqn_map {t k e : TypeId} (hu : P.underlying t = some (.map k e)) (p : Option Nat) (w : World) : (Op.equal t (.map p) (.map none)).run P w = .ok p.isNone w := by
  obtain ⟨d, hd⟩ := maxD
  unfold Op.equal; rw [hd]
  cases p <;> simp [Op.equalIn, run_underlying hu]
theorem eqn_func {t : TypeId} {ps rs : Array TypeId} {v : Bool} (hu : P.underlying t = some (.func ps rs v)) (fn : Fn) (xs ys : Array Value) (w : World) : (Op.equal t (.func fn xs ys) .nilFunc).run P w = .ok false w := by
  obtain ⟨d, hd⟩ := maxD
  unfold Op.equal; rw [hd]
  simp [Op.equalIn, run_underlying hu]
theorem eqn_nilFunc {t : TypeId} {ps rs : Array TypeId} {v : Bool} (hu : P.underlying t = some (.func ps rs v)) (w : World) : (Op.equal t .nilFunc .nilFunc).run P w = .ok true w := by
  obtain ⟨d, hd⟩ := maxD
  unfold Op.equal; rw [hd]
  simp [Op.equalIn, run_underlying hu]
theorem eqn_iface {t : TypeId} {ms : Array (String × TypeId)} (hu : P.underlying t = some (.interface ms)) (u : TypeId) (v : Value) (w : World) : (Op.equal t (.iface u v) .nilIface).run P w = .ok false w := by
  obtain ⟨d, hd⟩ := maxD
  unfold Op.equal; rw [hd]
  simp [Op.equalIn, run_underlying hu]
theorem eqn_nilIface {t : TypeId} {ms : Array (String × TypeId)} (hu : P.underlying t = some (.interface ms)) (w : World) : (Op.equal t .nilIface .nilIface).run P w = .ok true w := by
  obtain ⟨d, hd⟩ := maxD
  unfold Op.equal; rw [hd]
  simp [Op.equalIn, run_underlying hu]

theorem ok_isnil {op : BinOp} {t u : TypeId} {x y : Operand} (neg : Bool) {c : Value} (hop : o.op = .binOp op t x y u) (hneg : op = if neg then .neq else .eql) (hy : nilOf P t y = some c)
    (hr : HRel G base W0 m H w) (hf : FrRel m fr a.tmps) (hox : okOpnd G x = true) {v : Value} {b : Bool} (hx : ev fr x = some v) (hb : xisnil c v = some b) :
    OpOk P G base W0 o a w m H (.bool (if neg then !b else b)) H := by
  have h := ev_sound hr hf hox hx
  obtain ⟨rfl, hfit⟩ : y = .const c ∧ nilFits P t c = true := by
    cases y <;> simp [nilOf] at hy
    rename_i c'
    cases hn : nilFits P t c' <;> simp [hn] at hy
    subst hy; exact ⟨rfl, hn⟩
  refine .same hr (v' := .bool (if neg then !b else b)) ?_ (.bool _)
  have hq2 : a.eval (.const c) = c := rfl
  generalize hq : a.eval x = p at h
  have hcore : (eqGuard op t x (.const c) p c).run P w = .ok () w ∧ (binOp op t p c).run P w = .ok (.bool (if neg then !b else b)) w := by
    unfold nilFits at hfit
    unfold xisnil at hb
    split at hb
    all_goals (try (simp at hb; done))
    all_goals (simp only [Option.some.injEq] at hb; subst hb)
    all_goals
      (split at hfit <;> first | (exfalso; simp at hfit; done) | skip)
    all_goals (cases h)
    all_goals (cases neg <;> simp at hneg <;> subst hneg)
    all_goals (try contradiction)
    all_goals (refine ⟨by simp [eqGuard], ?_⟩; simp only [binOp, Sem.run_bind])
    all_goals (first | rw [eqn_ptr (by assumption)] | rw [eqn_slice (by assumption)] | rw [eqn_map (by assumption)] | rw [eqn_func (by assumption)] | rw [eqn_nilFunc (by assumption)] | rw [eqn_iface (by assumption)] | rw [eqn_nilIface (by assumption)])
    all_goals simp
  simp [execOp, hop, hq, hq2, hcore.1, hcore.2]

end Go.Det
