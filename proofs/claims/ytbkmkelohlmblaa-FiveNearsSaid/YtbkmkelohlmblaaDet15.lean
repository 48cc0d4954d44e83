/- A part of a run of a program on a heap of its own, and that the machine does what that run says: no condition but those that each theorem names. -/
import Derived.Test.YtbkmkelohlmblaaDet14
set_option linter.unusedSimpArgs false
set_option linter.unusedVariables false
namespace Go.Det

/-! ### regions whose order is drawn -/
def kindOf : XOp → Nat
  | .mov _ | .pick .. | .build .. | .nilck _ | .bin .. | .isnil .. | .conv .. | .fld .. | .fldA .. | .idxA .. | .idxAA .. | .idxV .. | .len _ | .lens _ | .mkf .. | .ext .. | .mkI .. | .flat .. => 0
  | .ld .. | .b2s _ | .slc .. | .slcA .. | .cap _ => 1
  | _ => 2

/-- an operation that makes a block of its own, and needs no order beside others: kind 3 -/
def kindX (x : XOper) : Nat :=
  match x.gd with
  | some _ => kindOf x.op
  | none => match x.op with
    | .new .. | .box .. | .mks .. => 3
    | op => kindOf op

def tmpsOf : List Operand → List Nat
  | [] => []
  | .tmp t :: r => t :: tmpsOf r
  | _ :: r => tmpsOf r

def rdOf (ops : Array Oper) (o : Oper) : List Nat :=
  tmpsOf o.op.operands.toList ++ match o.guard with
    | some (j, _) => match ops[j]? with
      | some oj => oj.dst.toList
      | none => []
    | none => []

def maskOf (ms : List Nat) (es : List Edge) : Nat := es.foldl (fun s e => bif Region.binds .any e then s ||| 2 ^ e.on ||| ms.getD e.on 0 else s) 0

def masks : List Oper → List Nat → List Nat
  | [], acc => acc
  | o :: os, acc => masks os (acc ++ [maskOf acc o.after.toList])

def depOk (ops : Array Oper) (ms : List Nat) : Bool :=
  (List.range ops.size).all fun i => match ops[i]? with
    | some o => Nat.beq (ms.getD i 0) (maskOf ms o.after.toList) && o.after.toList.all (fun e => !(Region.binds .any e) || Nat.blt e.on i)
    | none => false

def bitOf (ms : List Nat) (i j : Nat) : Bool := bif Nat.blt j i then (ms.getD i 0).testBit j else (ms.getD j 0).testBit i

def stages (ks : List Nat) : List Nat := 0 :: ((List.range ks.length).filter fun j => Nat.ble 2 (ks.getD j 0)).map (· + 1)

/-- no effect lies from t on before i -/
def ownSt (ks : List Nat) (i t : Nat) : Bool := Nat.ble t i && (List.range i).all fun k => Nat.blt k t || !(Nat.ble 2 (ks.getD k 0))

def stabList (ms ks : List Nat) (i : Nat) : List Nat :=
  (stages ks).filter fun t => !(ownSt ks i t) && (List.range ks.length).all fun j =>
    ((!(Nat.beq (ks.getD j 0) 2) || (!((ms.getD i 0).testBit j) || Nat.blt j t)) && (!(Nat.ble 2 (ks.getD j 0)) || (!((ms.getD j 0).testBit i) || !(Nat.blt j t))))

def mkD (ms ks : List Nat) : Nat → List XOper → List (List Nat) → List XDop
  | i, x :: xs, r :: rs => ⟨x, r, kindX x, bif Nat.beq (kindX x) 1 then stabList ms ks i else []⟩ :: mkD ms ks (i + 1) xs rs
  | _, _, _ => []

/-- whoever reads a block that is made there comes behind all effects ahead of it -/
def lateOk (ms : List Nat) (ds : List XDop) (i j : Nat) (q : XDop) (rd : List Nat) : Bool :=
  match q.x.dst with
  | none => true
  | some s => !(Nat.beq q.kind 3 && Fr.has rd s && Nat.blt j i) || (ds.zipIdx.all fun r => !(Nat.ble 2 r.1.kind && Nat.blt r.2 j) || (ms.getD i 0).testBit r.2)

def pairOk (ms : List Nat) (ds : List XDop) : Bool :=
  ds.zipIdx.all fun p => ds.zipIdx.all fun q => Nat.beq p.2 q.2 ||
    ((!(Nat.beq p.1.kind 2 && Nat.beq q.1.kind 2) || bitOf ms p.2 q.2) && (!(Nat.beq p.1.kind 2 && Nat.beq q.1.kind 3 && Nat.blt q.2 p.2) || bitOf ms p.2 q.2) && lateOk ms ds p.2 q.2 q.1 p.1.rd &&
     match q.1.x.dst with
     | none => true
     | some s => (!(Fr.has p.1.rd s) || bitOf ms p.2 q.2) && (!(decide (p.1.x.dst = some s)) || bitOf ms p.2 q.2))

def cDops (P : Program) (N : Nat) (ops : Array Oper) : Option (List XDop) :=
  match cOpers P N ops ops.toList with
  | none => none
  | some xs =>
    bif depOk ops (masks ops.toList []) && pairOk (masks ops.toList []) (mkD (masks ops.toList []) (xs.map fun x => kindX x) 0 xs (ops.toList.map (rdOf ops))) then
      some (mkD (masks ops.toList []) (xs.map fun x => kindX x) 0 xs (ops.toList.map (rdOf ops)))
    else none

variable {P : Program} {base : Nat} {W0 : World} {m : Mp} {H : AH} {w : World} {fr : Fr} {a : Act} {call : XCall}

/-! #### what a run of ours leaves -/
theorem xval_pure {x : XOper} {v : Value} {H1 : AH} (hk : kindOf x.op = 0) (h : xval P call x fr H = some (v, H1)) (H2 : AH) : H1 = H ∧ xval P call x fr H2 = some (v, H2) := by
  unfold xval at h ⊢
  split at h
  · simp at h
  · simp only [Option.some.injEq, Prod.mk.injEq] at h
    obtain ⟨rfl, rfl⟩ := h
    exact ⟨rfl, rfl⟩
  · have gen : ∀ (o : Option Value), (match o with | some v => some (v, H) | none => none) = some (v, H1) → H1 = H ∧ o = some v := by
      intro o ho
      cases o <;> simp at ho
      exact ⟨ho.2.symm, by simp [ho.1]⟩
    cases hop : x.op <;> simp only [hop, kindOf] at hk <;> (try (exact absurd hk (by decide)))
    all_goals simp only [hop, xop, Bool.cond_eq_ite] at h ⊢
    all_goals (repeat' split at h)
    all_goals first
      | (simp at h; done)
      | skip
    all_goals (simp only [Option.some.injEq, Prod.mk.injEq] at h; obtain ⟨rfl, rfl⟩ := h)
    all_goals (refine ⟨rfl, ?_⟩)
    all_goals (first | rfl | (simp_all; done))

theorem xval_read {x : XOper} {v : Value} {H1 : AH} (hk : kindOf x.op = 1) (h : xval P call x fr H = some (v, H1)) : H1 = H := by
  unfold xval at h
  split at h
  · simp at h
  · simp only [Option.some.injEq, Prod.mk.injEq] at h
    exact h.2.symm
  · cases hop : x.op <;> simp only [hop, kindOf] at hk <;> (try (exact absurd hk (by decide)))
    all_goals simp only [hop, xop, Bool.cond_eq_ite] at h
    all_goals (repeat' split at h)
    all_goals first
      | (simp at h; done)
      | (simp only [Option.some.injEq, Prod.mk.injEq] at h; exact h.2.symm)

theorem kind_le (x : XOp) : kindOf x = 0 ∨ kindOf x = 1 ∨ kindOf x = 2 := by
  cases x <;> simp [kindOf]
theorem kindX_of {x : XOper} {k : Nat} (h : kindX x = k) (hk : k < 2) : kindOf x.op = k := by
  unfold kindX at h
  split at h
  · exact h
  · split at h
    · omega
    · omega
    · omega
    · exact h
theorem kindX_le (x : XOper) : kindX x = 0 ∨ kindX x = 1 ∨ kindX x = 2 ∨ kindX x = 3 := by
  unfold kindX
  split
  · rcases kind_le x.op with h | h | h <;> simp [h]
  · split
    · simp
    · simp
    · simp
    · rename_i op _ _ _
      rcases kind_le x.op with h | h | h <;> simp [h]

/-- the run of ours, step by step -/
theorem drun_trace : ∀ (ds : List XDop) (t : Nat) (fr : Fr) (H : AH) (hs : List (Nat × AH)) (cs : List (XDop × Fr × Value)) (r : DOut), drun P call t ds fr H hs cs = some r →
    ∃ (f : Nat → Fr) (h : Nat → AH) (v : Nat → Value), f t = fr ∧ h t = H ∧ f (t + ds.length) = r.fr ∧ h (t + ds.length) = r.H ∧
      (∀ k d, ds[k]? = some d → xval P call d.x ((f (t + k)).keep d.rd) (h (t + k)) = some (v (t + k), h (t + k + 1)) ∧ f (t + k + 1) = (f (t + k)).put? d.x.dst (v (t + k)) ∧
        (d.stab ≠ [] → (d, (f (t + k)).keep d.rd, v (t + k)) ∈ r.cs)) ∧
      (∀ p ∈ r.hs, p ∈ hs ∨ ∃ k d, ds[k]? = some d ∧ 2 ≤ d.kind ∧ p = (t + k + 1, h (t + k + 1))) ∧ (∀ c ∈ cs, c ∈ r.cs)
  | [], t, fr, H, hs, cs, r, hr => by
    simp only [drun, Option.some.injEq] at hr; subst hr
    exact ⟨fun _ => fr, fun _ => H, fun _ => undef, rfl, rfl, rfl, rfl, fun k d hd => by simp at hd, fun p hp => .inl hp, fun c hc => hc⟩
  | d :: ds, t, fr, H, hs, cs, r, hr => by
    simp only [drun] at hr
    split at hr
    · rename_i v0 H1 hv
      obtain ⟨f, h, v, h1, h2, h3, h4, h5, h6, h7⟩ := drun_trace ds (t + 1) _ _ _ _ r hr
      refine ⟨fun k => if k = t then fr else f k, fun k => if k = t then H else h k, fun k => if k = t then v0 else v k, by simp, by simp, ?_, ?_, ?_, ?_, ?_⟩
      · have e : t + (d :: ds).length = t + 1 + ds.length := by rw [List.length_cons]; omega
        have n1 : ¬ t + 1 + ds.length = t := by omega
        simp only [e, n1, if_false]; exact h3
      · have e : t + (d :: ds).length = t + 1 + ds.length := by rw [List.length_cons]; omega
        have n1 : ¬ t + 1 + ds.length = t := by omega
        simp only [e, n1, if_false]; exact h4
      · intro k e he
        cases k with
        | zero =>
          simp at he; subst he
          simp only [Nat.add_zero, if_true, show ¬ t + 1 = t by omega, if_false, h1, h2]
          refine ⟨hv, trivial, fun hst => h7 _ ?_⟩
          cases hds : d.stab with
          | nil => exact absurd hds hst
          | cons a b => simp
        | succ k =>
          have := h5 k e (by simpa using he)
          have n1 : ¬ t + (k + 1) = t := by omega
          have n2 : ¬ t + (k + 1) + 1 = t := by omega
          simp only [n1, n2, if_false]
          rw [show t + (k + 1) = t + 1 + k by omega]
          exact this
      · intro p hp
        rcases h6 p hp with hp | ⟨k, e, g1, g2, g3⟩
        · cases hk2 : Nat.ble 2 d.kind
          · simp only [hk2, cond_false] at hp; exact .inl hp
          · simp only [hk2, cond_true, List.mem_cons] at hp
            rcases hp with rfl | hp
            · refine .inr ⟨0, d, rfl, Nat.le_of_ble_eq_true hk2, ?_⟩
              simp [h2, show ¬ t + 1 = t by omega]
            · exact .inl hp
        · refine .inr ⟨k + 1, e, by simpa using g1, g2, ?_⟩
          have n2 : ¬ t + (k + 1) + 1 = t := by omega
          simp only [n2, if_false]
          rw [show t + (k + 1) + 1 = t + 1 + k + 1 by omega]; exact g3
      · intro c hc
        refine h7 c ?_
        cases d.stab with
        | nil => exact hc
        | cons a b => exact List.mem_cons_of_mem _ hc
    · simp at hr

theorem heapAt_mem : ∀ (hs : List (Nat × AH)) (t : Nat) (H : AH), heapAt hs t = some H → (t, H) ∈ hs
  | [], t, H, h => by simp [heapAt] at h
  | p :: r, t, H, h => by
    simp only [heapAt] at h
    cases hb : Nat.beq p.1 t
    · simp only [hb, cond_false] at h
      exact List.mem_cons_of_mem _ (heapAt_mem r t H h)
    · simp only [hb, cond_true, Option.some.injEq] at h
      have := Nat.eq_of_beq_eq_true hb
      subst this; subst h
      simp

theorem mkD_get (ms ks : List Nat) : ∀ (xs : List XOper) (rs : List (List Nat)) (i k : Nat) (d : XDop), (mkD ms ks i xs rs)[k]? = some d →
    ∃ x r, xs[k]? = some x ∧ rs[k]? = some r ∧ d = ⟨x, r, kindX x, bif Nat.beq (kindX x) 1 then stabList ms ks (i + k) else []⟩
  | [], rs, i, k, d, h => by simp [mkD] at h
  | x :: xs, [], i, k, d, h => by simp [mkD] at h
  | x :: xs, r :: rs, i, k, d, h => by
    simp only [mkD] at h
    cases k with
    | zero => simp at h; exact ⟨x, r, rfl, rfl, h.symm⟩
    | succ k =>
      obtain ⟨x', r', h1, h2, h3⟩ := mkD_get ms ks xs rs (i + 1) k d (by simpa using h)
      exact ⟨x', r', by simpa using h1, by simpa using h2, by rw [h3, show i + 1 + k = i + (k + 1) by omega]⟩

theorem mkD_length (ms ks : List Nat) : ∀ (xs : List XOper) (rs : List (List Nat)) (i : Nat), xs.length = rs.length → (mkD ms ks i xs rs).length = xs.length
  | [], rs, i, h => by cases rs <;> simp [mkD]
  | x :: xs, [], i, h => by simp at h
  | x :: xs, r :: rs, i, h => by simp [mkD, mkD_length ms ks xs rs (i + 1) (by simpa using h)]

theorem cOpers_get {N : Nat} {ops : Array Oper} : ∀ (os : List Oper) (xs : List XOper), cOpers P N ops os = some xs → xs.length = os.length ∧ ∀ (k : Nat) (x : XOper), xs[k]? = some x → ∃ o, os[k]? = some o ∧ cOper P N ops o = some x
  | [], xs, h => by simp [cOpers] at h; subst h; simp
  | o :: os, xs, h => by
    simp only [cOpers] at h
    split at h
    · rename_i x xs' h1 h2
      cases h
      obtain ⟨g1, g2⟩ := cOpers_get os xs' h2
      refine ⟨by simp [g1], fun k x hx => ?_⟩
      cases k with
      | zero => simp at hx; subst hx; exact ⟨o, rfl, h1⟩
      | succ k => obtain ⟨o', k1, k2⟩ := g2 k x (by simpa using hx); exact ⟨o', by simpa using k1, k2⟩
    · simp at h

theorem maskOf_spec (ms : List Nat) (j : Nat) : ∀ (es : List Edge) (s : Nat), (es.foldl (fun s e => bif Region.binds .any e then s ||| 2 ^ e.on ||| ms.getD e.on 0 else s) s).testBit j = true →
    s.testBit j = true ∨ ∃ e ∈ es, Region.binds .any e = true ∧ (e.on = j ∨ (ms.getD e.on 0).testBit j = true)
  | [], s, h => .inl h
  | e :: es, s, h => by
    simp only [List.foldl_cons] at h
    rcases maskOf_spec ms j es _ h with h | ⟨e', h1, h2, h3⟩
    · cases hb : Region.binds .any e
      · simp only [hb, cond_false] at h; exact .inl h
      · simp only [hb, cond_true, Nat.testBit_or, Bool.or_eq_true, Nat.testBit_two_pow, decide_eq_true_eq] at h
        rcases h with (h | h) | h
        · exact .inl h
        · exact .inr ⟨e, by simp, hb, .inl h⟩
        · exact .inr ⟨e, by simp, hb, .inr h⟩
    · exact .inr ⟨e', by simp [h1], h2, h3⟩

/-- what a closed set of operations holds -/
theorem mask_closed {ops : Array Oper} {ms : List Nat} (hd : depOk ops ms = true) (S : Nat → Prop) (hS : ∀ k o, S k → ops[k]? = some o → ∀ e ∈ o.after, Region.binds .any e = true → S e.on) :
    ∀ (i : Nat) (o : Oper), ops[i]? = some o → (∀ e ∈ o.after, Region.binds .any e = true → S e.on) → ∀ j, (ms.getD i 0).testBit j = true → S j := by
  intro i
  induction i using Nat.strongRecOn with
  | _ i ih =>
    intro o ho hall j hj
    have hi : i < ops.size := (Array.getElem?_eq_some_iff.1 ho).1
    have h1 := List.all_eq_true.1 hd i (List.mem_range.2 hi)
    simp only [ho, Bool.and_eq_true] at h1
    obtain ⟨h1, h2⟩ := h1
    rw [Nat.eq_of_beq_eq_true h1] at hj
    rcases maskOf_spec ms j _ _ hj with h | ⟨e, g1, g2, g3⟩
    · simp at h
    · have hlt : e.on < i := by
        have := List.all_eq_true.1 h2 e g1
        simp only [g2, Bool.not_true, Bool.false_or] at this
        exact natlt this
      have hSe := hall e (by simpa using g1) g2
      rcases g3 with rfl | g3
      · exact hSe
      · have hei : e.on < ops.size := by omega
        exact ih e.on hlt _ (Array.getElem?_eq_getElem hei) (hS e.on _ hSe (Array.getElem?_eq_getElem hei)) j g3

/-! #### a block that is made early -/
theorem vrel_ptr_at {m : Mp} {B k s l z : Nat} (h : m.f B = some ⟨k, 0, s, l, z, false, false⟩) : VRel m (.pointer (some ⟨B, 0, none⟩)) (.pointer (some ⟨k, 0, none⟩)) := by
  have := VRel.ptr (m := m) B 0 _ h
  simpa using this
theorem vrel_sl_at {m : Mp} {B k l c z : Nat} (h : m.f B = some ⟨k, 0, c * z, c * z, z, false, false⟩) (hl : l ≤ c) : VRel m (.slice (some ⟨B, 0, none⟩) l c) (.slice (some ⟨k, 0, none⟩) l c) := by
  rcases Nat.eq_zero_or_pos c with h0 | h0
  · subst h0
    obtain rfl : l = 0 := by omega
    exact .sl0 B 0 0 _ _ h (fun _ => rfl) (fun hn => absurd (.inl rfl) hn) (fun hne => absurd rfl hne)
  · have := VRel.sl (m := m) B 0 l c c _ h h0 hl (Nat.le_refl _) (fun _ => rfl) (fun hn => absurd (.inl rfl) hn) (by simp)
    simpa using this

theorem alloc_wpOp {ops : Array Oper} {o : Oper} {i N : Nat} {x : XOper} (ho : ops[i]? = some o) (hc : cOper P N ops o = some x) (hk : kindX x = 3) {v : Value} {H0 H1 : AH}
    (hx : xval P call x fr H0 = some (v, H1)) (hr : HR P base W0 m H w) (hf : FrRel m fr a.tmps) (Q : Exit → Act → World → Prop) :
    ∃ blk, H1 = H0.push blk ∧ blk.ro = false ∧ 0 < blk.sz ∧ blk.opn = false ∧
      wpOp P ops Q i (fun a' w' => ∃ v' c ty cs', a' = a.put o.dst v' ∧ w' = { w with heap := w.heap.push (.cells c ty (0, 0)) } ∧ LRel m blk.cells cs' ∧ c.toList = cs' ∧
        ∀ m', m'.f H0.n = some ⟨w.heap.size, 0, c.size, blk.cells.length, blk.sz, false, false⟩ → VRel m' v v') a w := by
  unfold kindX at hk
  split at hk
  · rcases kind_le x.op with h | h | h <;> omega
  rename_i hgd
  have hw : xwanted fr x.gd = some true := by rw [hgd]; rfl
  obtain ⟨h1, h2, h3, h4⟩ := xwanted_sound hc hf hw
  unfold xval at hx
  simp only [hw] at hx
  have h3' : cOp P o = some x.op := by
    unfold cOpF at h3
    cases hco : cOp P o with
    | some y => simp only [hco] at h3; rw [h3]
    | none =>
      simp only [hco] at h3
      rw [← h3] at hx
      simp [failOp, xop, ev] at hx
  have hall : o.op.operands.all (okOpnd P.globals.size) = true := by
    unfold cOp at h3'
    cases hall : o.op.operands.all (okOpnd P.globals.size)
    · simp [hall] at h3'
    · rfl
  have hraw : cRaw P o = some x.op := by
    unfold cOp at h3'
    rw [hall] at h3'
    exact h3'
  have fin : ∀ (v' : Value) (w' : World) (R : Act → World → Prop), (execOp a.eval o).run P w = .ok (.value v') w' → R (a.put o.dst v') w' → wpOp P ops Q i R a w := by
    intro v' w' R hrun hR
    unfold wpOp
    simp only [ho, h1, if_true]
    left
    unfold Oper.wp
    rw [hrun, Oper.upon_value]
    exact hR
  cases hop : o.op with
  | alloc t =>
    simp only [cRaw, hop] at hraw
    split at hraw
    · rename_i zs hz
      simp only [Option.some.injEq] at hraw
      rw [← hraw] at hx
      simp only [xop, Option.some.injEq, Prod.mk.injEq] at hx
      obtain ⟨rfl, rfl⟩ := hx
      obtain ⟨⟨z, z1, z2⟩, z3⟩ := run_zero' hz w
      refine ⟨_, rfl, rfl, blkSz_pos P t, rfl, fin (.pointer (some ⟨w.heap.size, 0, none⟩)) { w with heap := w.heap.push (.cells z.cells t (0, 0)) } _ ?_ ⟨_, z.cells, t, zs, rfl, rfl, flat_lrel m zs z3, z2, fun m' hm' => vrel_ptr_at hm'⟩⟩
      simp [execOp, hop, Instr.alloc, z1, newVar, newRow]
    · simp at hraw
  | box t y =>
    simp only [cRaw, hop, Option.some.injEq] at hraw
    rw [← hraw] at hx
    have hall' : okOpnd P.globals.size y = true := by simpa [hop, Op.operands] using hall
    simp only [xop] at hx
    split at hx
    · rename_i u hu
      simp only [Option.some.injEq, Prod.mk.injEq] at hx
      obtain ⟨rfl, rfl⟩ := hx
      have hv := ev_sound hr hf hall' hu
      refine ⟨_, rfl, rfl, blkSz_pos P t, rfl, fin (.pointer (some ⟨w.heap.size, 0, none⟩)) { w with heap := w.heap.push (.cells (a.eval y).cells t (0, 0)) } _ ?_ ⟨_, (a.eval y).cells, t, _, rfl, rfl, (vcells_rel hv).1, rfl, fun m' hm' => vrel_ptr_at hm'⟩⟩
      simp [execOp, hop, Instr.box, newVar, newRow]
    · simp at hx
  | makeSlice t y z =>
    have hall' : okOpnd P.globals.size y = true ∧ okOpnd P.globals.size z = true := by simpa [hop, Op.operands] using hall
    simp only [cRaw, hop] at hraw
    split at hraw
    · rename_i e hu
      split at hraw
      · rename_i zs inf hz hi
        cases hcond : (Nat.beq zs.length inf.size && Nat.ble 1 inf.size)
        · simp only [hcond, cond_false] at hraw; cases hraw
        · simp only [hcond, cond_true, Option.some.injEq] at hraw
          rw [← hraw] at hx
          obtain ⟨g1, g2⟩ := Bool.and_eq_true_iff.1 hcond
          have hlen := Nat.eq_of_beq_eq_true g1
          have hs1 := Nat.le_of_ble_eq_true g2
          simp only [xop] at hx
          split at hx
          · rename_i k1 l k2 c hy hz'
            cases hcond2 : (Nat.ble l c && Nat.ble (c * inf.bytes) 140737488355328 && Nat.ble c 140737488355328)
            · simp only [hcond2, cond_false] at hx; cases hx
            · simp only [hcond2, cond_true, Option.some.injEq, Prod.mk.injEq] at hx
              obtain ⟨rfl, rfl⟩ := hx
              simp only [Bool.and_eq_true, Nat.ble_eq] at hcond2
              obtain ⟨⟨q1, q2⟩, q3⟩ := hcond2
              obtain ⟨C, hC, hrun⟩ := run_mks (a := a) hop hu hz hi hlen hs1 hr hf hall'.1 hall'.2 hy hz' q1 q2 q3
              obtain ⟨_, z3⟩ := run_zero' hz w
              refine ⟨_, rfl, rfl, Nat.lt_of_lt_of_le Nat.zero_lt_one hs1, rfl, fin _ _ _ hrun ⟨_, C, e, rep c zs, rfl, rfl, flat_lrel m _ (rep_flat c zs z3), hC, fun m' hm' => ?_⟩⟩
              have e1 : C.size = c * inf.size := by rw [← Array.length_toList, hC, rep_length, hlen]
              have e2 : (rep c zs).length = c * inf.size := by rw [rep_length, hlen]
              simp only [e1, e2] at hm'
              exact vrel_sl_at hm' q1
          · simp at hx
      · simp at hraw
    · simp at hraw
  | _ =>
    exfalso
    simp only [cRaw, hop, Bool.cond_eq_ite] at hraw
    repeat' split at hraw
    all_goals first
      | (cases hraw; done)
      | (simp only [Option.some.injEq] at hraw; rw [← hraw] at hk; simp [kindOf] at hk; done)
      | (simp only [Option.some.injEq] at hraw; rw [← hraw] at hk; revert hk; decide)
      | skip
end Go.Det
