/- A part of a run of a program on a heap of its own, and that the machine does what that run says: no condition but those that each theorem names. -/
import Derived.Test.YtbkmkelohlmblaaDet10
set_option linter.unusedSimpArgs false
set_option linter.unusedVariables false
namespace Go.Det

variable {P : Program} {G base : Nat} {W0 : World} {m : Mp} {H : AH} {w : World} {fr : Fr} {a : Act} {o : Oper}

inductive All2 {α β : Type} (R : α → β → Prop) : List α → List β → Prop where
  | nil : All2 R [] []
  | cons {a : α} {b : β} {as : List α} {bs : List β} : R a b → All2 R as bs → All2 R (a :: as) (b :: bs)

theorem foldl_splice (off : Nat) : ∀ (l : List Value) (k : Nat) (cells : Array Value), off + k + l.length ≤ cells.size →
    ((l.zipIdx k).foldl (fun cs (p : Value × Nat) => cs.setIfInBounds (off + p.2) p.1) cells).toList = splice cells.toList (off + k) l
  | [], k, cells, h => by simp [splice_nil]
  | v :: l, k, cells, h => by
    simp only [List.length_cons] at h
    simp only [List.zipIdx_cons, List.foldl_cons]
    rw [foldl_splice off l (k + 1) _ (by simp; omega)]
    rw [Array.toList_setIfInBounds, show off + (k + 1) = off + k + 1 by omega, splice_cons _ _ _ _ (by simp; omega)]

theorem fill_rel (hr : HRel G base W0 m H w) (hf : FrRel m fr a.tmps) (place : Nat → Option (Nat × Nat)) : ∀ (qs : List (Nat × Operand)) (ps : List (Nat × Nat × Operand)) (cs : List Value) (cs' : Array Value) (r : List Value),
    (∀ q ∈ qs, okOpnd G q.2 = true) → All2 (fun (q : Nat × Operand) (p : Nat × Nat × Operand) => place q.1 = some (p.1, p.2.1) ∧ q.2 = p.2.2) qs ps → LRel m cs cs'.toList → xfill fr ps cs = some r →
    ∃ r', Instr.fill place cs' (qs.map fun q => (q.1, a.eval q.2)) = some r' ∧ LRel m r r'.toList
  | [], _, cs, cs', r, _, .nil, hl, hx => by
    simp [xfill] at hx; subst hx
    exact ⟨cs', by simp [Instr.fill], hl⟩
  | (i, x) :: qs, (off, n, x2) :: ps, cs, cs', r, ho, .cons hh ht, hl, hx => by
    obtain ⟨hp, hxx⟩ := hh
    simp only at hp hxx
    subst hxx
    simp only [xfill] at hx
    cases he : ev fr x with
    | none => simp [he] at hx
    | some v =>
      simp only [he] at hx
      cases hcond : (Nat.beq (vcells v).length n && Nat.ble (off + n) cs.length && (vcells v).all one)
      · simp only [hcond, cond_false] at hx; cases hx
      · simp only [hcond, cond_true] at hx
        simp only [Bool.and_eq_true, Nat.ble_eq] at hcond
        obtain ⟨⟨c1, c2⟩, c3⟩ := hcond
        have c1 : (vcells v).length = n := Nat.eq_of_beq_eq_true c1
        obtain ⟨hv1, hv2⟩ := vcells_rel (ev_sound hr hf (ho (i, x) (by simp)) he)
        have hsz : (a.eval x).cells.size = n := by rw [← Array.length_toList, ← hv1.1, c1]
        have hcs' : cs'.size = cs.length := by rw [← Array.length_toList, ← hl.1]
        have hfo : ((a.eval x).cells.zipIdx.foldl (fun cs (p : Value × Nat) => cs.setIfInBounds (off + p.2) p.1) cs').toList = splice cs'.toList off (a.eval x).cells.toList := by
          rw [← Array.foldl_toList, Array.toList_zipIdx]
          have := foldl_splice off (a.eval x).cells.toList 0 cs' (by rw [Array.length_toList, hsz]; omega)
          simpa using this
        have hl2 : LRel m (splice cs off (vcells v)) ((a.eval x).cells.zipIdx.foldl (fun cs (p : Value × Nat) => cs.setIfInBounds (off + p.2) p.1) cs').toList := by
          rw [hfo]; exact hl.splice hv1 off
        obtain ⟨r', h1, h2⟩ := fill_rel hr hf place qs ps _ _ r (fun q hq => ho q (by simp [hq])) ht hl2 hx
        refine ⟨r', ?_, h2⟩
        simp only [List.map_cons, Instr.fill, hp]
        rw [if_neg (by simp only [hsz, hcs']; simp; omega)]
        exact h1

theorem mapM_places : ∀ (l : List Field) (w : World), (∀ f ∈ l, (sizeAt P f.type).isSome = true) →
    (l.mapM (fun f => do pure (f.offset, ← sizeOf f.type) : Field → Sem (Nat × Nat))).run P w = .ok (l.map fun f => (f.offset, (sizeAt P f.type).getD 0)) w
  | [], w, _ => by simp
  | f :: l, w, h => by
    have hf := h f (by simp)
    obtain ⟨n, hn⟩ := Option.isSome_iff_exists.1 hf
    have ih := mapM_places l w (fun g hg => h g (by simp [hg]))
    simp only [List.mapM_cons, Sem.run_bind, run_sizeOf' hn, Result.andThen_ok, Sem.run_pure, ih, List.map_cons, hn, Option.getD_some]

theorem fieldsOff_rel {fs : Array Field} : ∀ (qs : List (Nat × Operand)) (ps : List (Nat × Nat × Operand)), fieldsOff P fs qs = some ps →
    All2 (fun (q : Nat × Operand) (p : Nat × Nat × Operand) => (fs.map fun f => (f.offset, (sizeAt P f.type).getD 0))[q.1]? = some (p.1, p.2.1) ∧ q.2 = p.2.2) qs ps
  | [], ps, h => by simp [fieldsOff] at h; subst h; exact .nil
  | (i, x) :: qs, ps, h => by
    simp only [fieldsOff] at h
    cases hf : fs[i]? with
    | none => simp [hf] at h
    | some f =>
      simp only [hf] at h
      cases hn : sizeAt P f.type with
      | none => simp [hn] at h
      | some n =>
        cases hr : fieldsOff P fs qs with
        | none => simp [hn, hr] at h
        | some r =>
          simp [hn, hr] at h; subst h
          refine .cons ⟨?_, rfl⟩ (fieldsOff_rel qs r hr)
          simp [hf, hn]

theorem ok_buildS {t : TypeId} {ps : Array (Nat × Operand)} {fs : Array Field} {zs r : List Value} {l : List (Nat × Nat × Operand)} (hop : o.op = .build t ps) (hu : P.underlying t = some (.struct fs)) (hz : zeroAt P t = some zs)
    (hl : fieldsOff P fs ps.toList = some l) (hall : fs.toList.all (fun f => (sizeAt P f.type).isSome) = true) (hr : HRel G base W0 m H w) (hf : FrRel m fr a.tmps) (ho : ∀ q ∈ ps.toList, okOpnd G q.2 = true)
    (hx : xfill fr l zs = some r) : OpOk P G base W0 o a w m H (.agg r.toArray) H := by
  obtain ⟨⟨z, h1, h2⟩, h3⟩ := run_zero' hz w
  obtain ⟨r', k1, k2⟩ := fill_rel (w := w) hr hf (fun i => (fs.map fun f => (f.offset, (sizeAt P f.type).getD 0))[i]?) ps.toList l zs z.cells r ho (fieldsOff_rel _ _ hl) (by rw [h2]; exact flat_lrel m zs h3) hx
  have hm : (fs.mapM (fun f => do pure (f.offset, ← sizeOf f.type) : Field → Sem (Nat × Nat))).run P w = .ok (fs.map fun f => (f.offset, (sizeAt P f.type).getD 0)) w := by
    rw [Array.mapM_eq_mapM_toList, Sem.run_map, mapM_places fs.toList w (fun f hf => List.all_eq_true.1 hall f hf), Result.andThen_ok]
    congr 1
    apply Array.ext'
    simp
  have hps : (ps.map fun (p : Nat × Operand) => (p.1, a.eval p.2)).toList = ps.toList.map fun q => (q.1, a.eval q.2) := by simp
  have := k2.to_agg
  rw [Array.toArray_toList] at this
  refine .same hr (v' := .agg r') ?_ this
  simp only [execOp, hop, Instr.build, Sem.run_bind, h1, Result.andThen_ok, run_underlying hu, hm]
  rw [hps, k1]
  simp

theorem ok_buildA {t e : TypeId} {n sz : Nat} {ps : Array (Nat × Operand)} {zs r : List Value} (hop : o.op = .build t ps) (hu : P.underlying t = some (.array n e)) (hz : zeroAt P t = some zs)
    (hs : sizeAt P e = some sz) (hr : HRel G base W0 m H w) (hf : FrRel m fr a.tmps) (ho : ∀ q ∈ ps.toList, okOpnd G q.2 = true)
    (hx : xfill fr (ps.toList.map fun p => (p.1 * sz, sz, p.2)) zs = some r) : OpOk P G base W0 o a w m H (.agg r.toArray) H := by
  obtain ⟨⟨z, h1, h2⟩, h3⟩ := run_zero' hz w
  have hfa : ∀ qs : List (Nat × Operand), All2 (fun (q : Nat × Operand) (p : Nat × Nat × Operand) => (fun i => some (i * sz, sz)) q.1 = some (p.1, p.2.1) ∧ q.2 = p.2.2) qs (qs.map fun p => (p.1 * sz, sz, p.2)) := by
    intro qs
    induction qs with
    | nil => exact .nil
    | cons q qs ih => exact .cons ⟨rfl, rfl⟩ ih
  obtain ⟨r', k1, k2⟩ := fill_rel (w := w) hr hf (fun i => some (i * sz, sz)) ps.toList _ zs z.cells r ho (hfa _) (by rw [h2]; exact flat_lrel m zs h3) hx
  have hps : (ps.map fun (p : Nat × Operand) => (p.1, a.eval p.2)).toList = ps.toList.map fun q => (q.1, a.eval q.2) := by simp
  have := k2.to_agg
  rw [Array.toArray_toList] at this
  refine .same hr (v' := .agg r') ?_ this
  simp only [execOp, hop, Instr.build, Sem.run_bind, h1, Result.andThen_ok, run_underlying hu, run_sizeOf' hs]
  rw [hps, k1]
  simp

theorem ok_bslice {t e : TypeId} {n sz : Nat} {ps : Array (Nat × Operand)} {zs r : List Value} (hop : o.op = .buildSlice t n ps) (hu : P.underlying t = some (.slice e)) (hz : zeroAt P e = some zs)
    (hs : sizeAt P e = some sz) (hbig : n * sz ≤ 16777216) (hzl : zs.length = sz) (hs1 : 1 ≤ sz) (hr : HRel G base W0 m H w) (hf : FrRel m fr a.tmps) (ho : ∀ q ∈ ps.toList, okOpnd G q.2 = true)
    (hx : xfill fr (ps.toList.map fun p => (p.1 * sz, sz, p.2)) (rep n zs) = some r) (hlen : r.length = n * sz) :
    OpOk P G base W0 o a w m H (.slice (some ⟨H.n, 0, none⟩) n n) (H.push ⟨r, sz, false, false⟩) := by
  obtain ⟨⟨z, h1, h2⟩, h3⟩ := run_zero' hz w
  have hfa : ∀ qs : List (Nat × Operand), All2 (fun (q : Nat × Operand) (p : Nat × Nat × Operand) => (fun i => some (i * sz, sz)) q.1 = some (p.1, p.2.1) ∧ q.2 = p.2.2) qs (qs.map fun p => (p.1 * sz, sz, p.2)) := by
    intro qs
    induction qs with
    | nil => exact .nil
    | cons q qs ih => exact .cons ⟨rfl, rfl⟩ ih
  have hzs : z.cells.toList.length = sz := by rw [h2, hzl]
  let Z : Array Value := if n * sz = 0 then #[] else z.cells
  let C : Array Value := (Array.range (n * sz)).map (fun j => Z[j % Z.size]!)
  have hC : C.toList = rep n zs := by
    rcases Nat.eq_zero_or_pos n with h0 | h0
    · subst h0; simp [C, rep]
    · have : ¬ n * sz = 0 := Nat.ne_of_gt (Nat.mul_pos h0 (by omega))
      have := range_rep z.cells n sz hzs
      rw [h2] at this
      simpa [C, Z, ‹¬ n * sz = 0›] using this
  obtain ⟨r', k1, k2⟩ := fill_rel (w := w) hr hf (fun i => some (i * sz, sz)) ps.toList _ (rep n zs) C r ho (hfa _) (by rw [hC]; exact flat_lrel m _ (rep_flat n zs h3)) hx
  have hps : (ps.map fun (p : Nat × Operand) => (p.1, a.eval p.2)).toList = ps.toList.map fun q => (q.1, a.eval q.2) := by simp
  have hrs : r'.size = n * sz := by rw [← Array.length_toList, ← k2.1, hlen]
  obtain ⟨hR, hF⟩ := hr.pushL r r' e sz false false (by omega) [] ⟨r'.toList, k2, by simp⟩
  refine ⟨_, .slice (some ⟨w.heap.size, 0, none⟩) n n, _, .inl ?_, hR, hF, ?_⟩
  · simp only [execOp, hop, Instr.buildSlice, Sem.run_bind, run_underlying hu, Result.andThen_ok, run_sizeOf' hs]
    rw [if_neg (by omega)]
    rw [hps]
    simp only [Z, C] at k1
    by_cases h0 : n * sz = 0
    · simp only [h0, if_true] at k1 ⊢
      simp only [Sem.run_bind, Sem.run_pure, Result.andThen_ok, k1, newRow, run_newObj]
    · simp only [h0, if_false] at k1 ⊢
      simp only [Sem.run_bind, h1, Sem.run_pure, Result.andThen_ok, k1, newRow, run_newObj]
  · exact push_sl m w _ _ _ _ n n n _ _ (Nat.le_refl _) (Nat.le_refl _) (fun _ => rfl) (fun h => by simp at h) (by rw [hrs]; exact Nat.le_refl _)

theorem ok_slcA {t e : TypeId} {len sz : Nat} {x : Operand} {lo hi mx : Option Operand} (hop : o.op = .slice t x lo hi mx) (hu : P.underlying t = some (.array len e)) (hs : sizeAt P e = some sz)
    (hr : HRel G base W0 m H w) (hf : FrRel m fr a.tmps) (hox : okOpnd G x = true) (hol : ∀ y, lo = some y → okOpnd G y = true) (hoh : ∀ y, hi = some y → okOpnd G y = true)
    (hom : ∀ y, mx = some y → okOpnd G y = true) {v r : Value} {va vb vc : Option Value} (hx : ev fr x = some v) (ha : optEv fr lo = some va) (hb : optEv fr hi = some vb) (hc : optEv fr mx = some vc)
    (hmh : mx.isSome = true → hi.isSome = true) (hxs : xslcA H len sz v va vb vc = some r) : OpOk P G base W0 o a w m H r H := by
  have h := ev_sound hr hf hox hx
  generalize hq : a.eval x = q at h
  unfold xslcA at hxs
  split at hxs
  · rename_i B off
    split at hxs
    · simp at hxs
    · rename_i blk hblk
      split at hxs
      · simp at hxs
      · rename_i mm n3
        split at hxs
        · simp at hxs
        · rename_i hh n2
          split at hxs
          · simp at hxs
          · rename_i ii n1
            cases hcond : (Nat.beq blk.sz sz && Nat.ble ii hh && Nat.ble hh mm && Nat.ble mm len && Nat.ble (off + len * sz) blk.cells.length && (!blk.opn || Nat.blt (off + mm * sz) blk.cells.length))
            · simp only [hcond, cond_false] at hxs; cases hxs
            · simp only [hcond, cond_true, Option.some.injEq] at hxs
              subst hxs
              simp only [Bool.and_eq_true, Nat.ble_eq] at hcond
              obtain ⟨⟨⟨⟨⟨c1, c2⟩, c3⟩, c4⟩, c5⟩, c6⟩ := hcond
              have c1 : blk.sz = sz := Nat.eq_of_beq_eq_true c1
              obtain ⟨en, hen, hk, hqv⟩ := VRel.live_ptr hr hblk h
              have hesz : en.sz = sz := by rw [hk.sz, c1]
              subst hqv
              have hl := optEv_sound hr hf hol ha n1
              have hhh := optEv_sound hr hf hoh hb n2
              have hm := optEv_sound hr hf hom hc n3
              have b1 := bound_opt (or3 hl)
              have b2 := bound_opt (or3 hhh)
              have b3 := bound_opt (or3 hm)
              have hbd := run_sliceBounds (P := P) (cap := len) (len := len) false b1 b2 b3 (by simpa using hmh) c2 c3 c4 w
              obtain ⟨cc, tt, fz, k1, k2, k3, k4, k5⟩ := hk.at_
              have hkn := hk.kn
              refine .same hr (v' := .slice (some (if mm = ii then ⟨en.b, en.base + off, none⟩ else Addr.add ⟨en.b, en.base + off, none⟩ (ii * sz))) (hh - ii) (mm - ii)) ?_ ?_
              · simp only [execOp, hop, Instr.sliceAt, Sem.run_bind, run_underlying hu, Result.andThen_ok, Instr.sureAddr, hq, hbd, run_sizeOf' hs, Sem.run_pure]
              · have hmul : ii * sz + (mm - ii) * sz = mm * sz := by rw [← Nat.add_mul]; congr 1; omega
                have hex : en.exact (off + ii * sz) (mm - ii) := by
                  simp only [Bool.or_eq_true, Bool.not_eq_true'] at c6
                  rcases c6 with h | h
                  · left; rw [hk.opn, h]
                  · right; have := natlt h; rw [hesz, hk.kn]; omega
                rcases Nat.eq_zero_or_pos (mm - ii) with h0 | h0
                · have hhi0 : hh - ii = 0 := by omega
                  rw [h0] at hex
                  rw [h0, hhi0]
                  exact .sl0 B _ 0 _ en hen (fun _ => rfl) (fun hnx => absurd hex hnx) (fun hne => absurd rfl hne)
                · have hne' : ¬ mm = ii := by omega
                  rw [if_neg hne', addr_add]
                  have hgo := VRel.sl (m := m) B (off + ii * sz) (hh - ii) (mm - ii) (mm - ii) en hen h0 (by omega) (by omega) (fun _ => rfl) (fun hnx => absurd hex hnx) ?_
                  · rw [← Nat.add_assoc] at hgo; exact hgo
                  · rw [hesz]
                    have e2 : mm * sz ≤ len * sz := Nat.mul_le_mul_right _ c4
                    omega
  · simp at hxs

end Go.Det
