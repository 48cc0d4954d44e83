/- A part of a run of a program on a heap of its own, and that the machine does what that run says: no condition but those that each theorem names. -/
import Derived.Test.YtbkmkelohlmblaaDet11
set_option linter.unusedSimpArgs false
set_option linter.unusedVariables false
namespace Go.Det

variable {P : Program} {base : Nat} {W0 : World} {m : Mp} {H : AH} {w : World} {fr : Fr} {a : Act} {o : Oper}

theorem blkSz_pos (P : Program) (t : TypeId) : 0 < blkSz P t := by
  unfold blkSz
  split
  · split <;> omega
  · omega

theorem ev_none_some {x : Option Value} {v : Value} {H H' : AH} (h : (match x with | some v => some (v, H) | none => none) = some (v, H')) : x = some v ∧ H' = H := by
  cases x <;> simp at h
  exact ⟨by simp [h.1], h.2.symm⟩

set_option maxHeartbeats 1000000 in
theorem xop_sound {x : XOp} (hc : cOp P o = some x) {v : Value} {H' : AH} (hx : xop P fr H x = some (v, H')) (hr : HRel P.globals.size base W0 m H w) (hf : FrRel m fr a.tmps) :
    OpOk P P.globals.size base W0 o a w m H v H' := by
  unfold cOp at hc
  cases hall : o.op.operands.all (okOpnd P.globals.size)
  · simp [hall] at hc
  simp only [hall, cond_true] at hc
  cases hop : o.op with
  | move y =>
    simp only [cRaw, hop, Option.some.injEq] at hc; subst hc
    simp [hop, Op.operands] at hall
    obtain ⟨h1, rfl⟩ := ev_none_some hx
    exact ok_mov (.inl hop) hr hf hall h1
  | assign y =>
    simp only [cRaw, hop, Option.some.injEq] at hc; subst hc
    simp [hop, Op.operands] at hall
    obtain ⟨h1, rfl⟩ := ev_none_some hx
    exact ok_mov (.inr hop) hr hf hall h1
  | pick c y z =>
    simp only [cRaw, hop, Option.some.injEq] at hc; subst hc
    simp [hop, Op.operands] at hall
    simp only [xop] at hx
    split at hx
    · obtain ⟨h1, rfl⟩ := ev_none_some hx
      exact ok_pick (b := true) hop hr hf hall.1 hall.2.1 hall.2.2 ‹_› h1
    · obtain ⟨h1, rfl⟩ := ev_none_some hx
      exact ok_pick (b := false) hop hr hf hall.1 hall.2.1 hall.2.2 ‹_› h1
    · simp at hx
  | alloc t =>
    simp only [cRaw, hop] at hc
    split at hc
    · simp only [Option.some.injEq] at hc; subst hc
      simp only [xop, Option.some.injEq, Prod.mk.injEq] at hx
      obtain ⟨rfl, rfl⟩ := hx
      exact ok_new _ (blkSz_pos P t) hop ‹_› hr
    · simp at hc
  | box t y =>
    simp only [cRaw, hop, Option.some.injEq] at hc; subst hc
    simp [hop, Op.operands] at hall
    simp only [xop] at hx
    split at hx
    · simp only [Option.some.injEq, Prod.mk.injEq] at hx
      obtain ⟨rfl, rfl⟩ := hx
      exact ok_box _ (blkSz_pos P t) hop hr hf hall ‹_›
    · simp at hx
  | build t ps =>
    simp only [cRaw, hop] at hc
    have hall' : ∀ q ∈ ps.toList, okOpnd P.globals.size q.2 = true := by
      intro q hq
      rw [hop] at hall
      simp only [Op.operands, List.all_toArray, List.all_map, List.all_eq_true] at hall
      exact hall q hq
    split at hc
    · split at hc
      · rename_i fs hu _ _ zs l hz hl
        cases hfl : fs.toList.all (fun f => (sizeAt P f.type).isSome)
        · simp only [hfl, cond_false] at hc; cases hc
        · simp only [hfl, cond_true, Option.some.injEq] at hc; subst hc
          simp only [xop] at hx
          split at hx
          · simp only [Option.some.injEq, Prod.mk.injEq] at hx
            obtain ⟨rfl, rfl⟩ := hx
            exact ok_buildS hop hu hz hl hfl hr hf hall' ‹_›
          · simp at hx
      · simp at hc
    · split at hc
      · simp only [Option.some.injEq] at hc; subst hc
        simp only [xop] at hx
        split at hx
        · simp only [Option.some.injEq, Prod.mk.injEq] at hx
          obtain ⟨rfl, rfl⟩ := hx
          exact ok_buildA hop ‹_› ‹_› ‹_› hr hf hall' ‹_›
        · simp at hx
      · simp at hc
    · simp at hc
  | buildSlice t n ps =>
    simp only [cRaw, hop] at hc
    have hall' : ∀ q ∈ ps.toList, okOpnd P.globals.size q.2 = true := by
      intro q hq
      rw [hop] at hall
      simp only [Op.operands, List.all_toArray, List.all_map, List.all_eq_true] at hall
      exact hall q hq
    split at hc
    · rename_i _ e hu
      split at hc
      · rename_i zs sz hz hs
        cases hcond : (Nat.ble (n * sz) 16777216 && Nat.beq zs.length sz && Nat.ble 1 sz)
        · simp only [hcond, cond_false] at hc; cases hc
        · simp only [hcond, cond_true, Option.some.injEq] at hc; subst hc
          obtain ⟨h12, h3⟩ := Bool.and_eq_true_iff.1 hcond
          obtain ⟨h1, h2⟩ := Bool.and_eq_true_iff.1 h12
          simp only [xop] at hx
          split at hx
          · rename_i r hfill
            simp only [Option.some.injEq, Prod.mk.injEq] at hx
            obtain ⟨rfl, rfl⟩ := hx
            have hzl : zs.length = sz := Nat.eq_of_beq_eq_true h2
            have hlen : r.length = n * sz := by
              have key : ∀ (ps : List (Nat × Nat × Operand)) (cs r : List Value), xfill fr ps cs = some r → r.length = cs.length := by
                intro ps
                induction ps with
                | nil => intro cs r h; simp [xfill] at h; subst h; rfl
                | cons p ps ih =>
                  obtain ⟨off, k, y⟩ := p
                  intro cs r h
                  simp only [xfill] at h
                  split at h
                  · rename_i u hu
                    cases hcnd : (Nat.beq (vcells u).length k && Nat.ble (off + k) cs.length && (vcells u).all one)
                    · simp only [hcnd, cond_false] at h; cases h
                    · simp only [hcnd, cond_true] at h
                      obtain ⟨g12, _⟩ := Bool.and_eq_true_iff.1 hcnd
                      obtain ⟨g1, g2⟩ := Bool.and_eq_true_iff.1 g12
                      rw [ih _ _ h, splice_length]
                      rw [Nat.eq_of_beq_eq_true g1]; exact Nat.le_of_ble_eq_true g2
                  · simp at h
              rw [key _ _ _ hfill, rep_length, hzl]
            exact ok_bslice hop hu hz hs (Nat.le_of_ble_eq_true h1) hzl (Nat.le_of_ble_eq_true h3) hr hf hall' hfill hlen
          · simp at hx
      · simp at hc
    · simp at hc
  | load t y =>
    simp only [cRaw, hop] at hc
    simp [hop, Op.operands] at hall
    split at hc
    · simp only [Option.some.injEq] at hc; subst hc
      simp only [xop] at hx
      split at hx
      · split at hx
        · obtain ⟨h1, rfl⟩ := ev_none_some hx
          exact ok_ld hop ‹_› hr hf hall ‹_› ‹_› h1
        · simp at hx
      · simp at hx
    · simp at hc
  | store t y z =>
    simp only [cRaw, hop] at hc
    simp [hop, Op.operands] at hall
    split at hc
    · rename_i n hn
      simp only [Option.some.injEq] at hc; subst hc
      simp only [xop] at hx
      split at hx
      · rename_i B off u hy hz
        split at hx
        · rename_i blk hb
          cases hcond : (Nat.beq (vcells u).length n && (vcells u).all one && !blk.ro && Nat.ble (off + n) blk.cells.length)
          · simp only [hcond, cond_false] at hx; cases hx
          · simp only [hcond, cond_true, Option.some.injEq, Prod.mk.injEq] at hx
            obtain ⟨rfl, rfl⟩ := hx
            obtain ⟨h123, h4⟩ := Bool.and_eq_true_iff.1 hcond
            obtain ⟨h12, h3⟩ := Bool.and_eq_true_iff.1 h123
            obtain ⟨h1, h2⟩ := Bool.and_eq_true_iff.1 h12
            exact ok_st hop hn hr hf hall.1 hall.2 hy hz hb (Nat.eq_of_beq_eq_true h1) h2 (by simpa using h3) (Nat.le_of_ble_eq_true h4)
        · simp at hx
      · simp at hx
    · simp at hc
  | nilCheck y =>
    simp only [cRaw, hop, Option.some.injEq] at hc; subst hc
    simp [hop, Op.operands] at hall
    simp only [xop] at hx
    split at hx
    · simp only [Option.some.injEq, Prod.mk.injEq] at hx
      obtain ⟨rfl, rfl⟩ := hx
      exact ok_nilck hop hr hf hall ‹_› (.inl ⟨_, rfl⟩)
    · simp only [Option.some.injEq, Prod.mk.injEq] at hx
      obtain ⟨rfl, rfl⟩ := hx
      exact ok_nilck hop hr hf hall ‹_› (.inr ⟨_, _, _, rfl⟩)
    · simp at hx
  | binOp op t y z ty =>
    have hall2 := hall
    simp [hop, Op.operands] at hall
    have hbin : ∀ {v H'}, xop P fr H (.bin op y z) = some (v, H') → OpOk P P.globals.size base W0 o a w m H v H' := by
      intro v H' hx
      simp only [xop] at hx
      split at hx
      · obtain ⟨h1, rfl⟩ := ev_none_some hx
        exact ok_bin hop hr hf hall.1 hall.2 ‹_› ‹_› h1
      · simp at hx
    have hflat : ∀ {v H'}, xop P fr H (.flat (.binOp op t y z ty) o.type) = some (v, H') → OpOk P P.globals.size base W0 o a w m H v H' := by
      intro v H' hx
      simp only [xop] at hx
      obtain ⟨h1, rfl⟩ := ev_none_some hx
      exact ok_flat hop rfl (by simp) hr hf (by rw [← hop]; exact hall2) h1
    simp only [cRaw, hop] at hc
    split at hc
    · split at hc
      · simp only [Option.some.injEq] at hc; subst hc
        simp only [xop] at hx
        split at hx
        · split at hx
          · simp only [Option.some.injEq, Prod.mk.injEq] at hx
            obtain ⟨rfl, rfl⟩ := hx
            exact ok_isnil false hop rfl ‹_› hr hf hall.1 ‹_› ‹_›
          · simp at hx
        · simp at hx
      · cases hi : intOrStr P t
        · simp only [hi, cond_false, Option.some.injEq] at hc; subst hc; exact hflat hx
        · simp only [hi, cond_true, Option.some.injEq] at hc; subst hc; exact hbin hx
    · split at hc
      · simp only [Option.some.injEq] at hc; subst hc
        simp only [xop] at hx
        split at hx
        · split at hx
          · simp only [Option.some.injEq, Prod.mk.injEq] at hx
            obtain ⟨rfl, rfl⟩ := hx
            exact ok_isnil true hop rfl ‹_› hr hf hall.1 ‹_› ‹_›
          · simp at hx
        · simp at hx
      · cases hi : intOrStr P t
        · simp only [hi, cond_false, Option.some.injEq] at hc; subst hc; exact hflat hx
        · simp only [hi, cond_true, Option.some.injEq] at hc; subst hc; exact hbin hx
    · simp only [Option.some.injEq] at hc; subst hc; exact hbin hx
  | unOp op t y =>
    simp only [cRaw, hop, Option.some.injEq] at hc; subst hc
    simp only [xop] at hx
    obtain ⟨h1, rfl⟩ := ev_none_some hx
    exact ok_flat hop rfl (by simp) hr hf (by rw [← hop]; exact hall) h1
  | convert s d y =>
    have hall2 := hall
    simp [hop, Op.operands] at hall
    simp only [cRaw, hop] at hc
    split at hc
    · simp only [Option.some.injEq] at hc; subst hc
      simp only [xop] at hx
      split at hx
      · simp only [Option.some.injEq, Prod.mk.injEq] at hx
        obtain ⟨rfl, rfl⟩ := hx
        exact ok_conv hop ‹_› ‹_› hr hf hall ‹_›
      · simp at hx
    · rename_i e hs hd
      cases hb : isByte P e
      · simp [hb] at hc
      · simp only [hb, cond_true, Option.some.injEq] at hc; subst hc
        have he : P.underlying e = some (.int .u8) := by
          unfold isByte at hb
          split at hb
          · assumption
          · simp at hb
        simp only [xop] at hx
        split at hx
        · simp only [Option.some.injEq, Prod.mk.injEq] at hx
          obtain ⟨rfl, rfl⟩ := hx
          exact ok_s2b hop hs hd he hr hf hall ‹_›
        · simp at hx
    · rename_i e hs hd
      cases hb : isByte P e
      · simp [hb] at hc
      · simp only [hb, cond_true, Option.some.injEq] at hc; subst hc
        have he : P.underlying e = some (.int .u8) := by
          unfold isByte at hb
          split at hb
          · assumption
          · simp at hb
        simp only [xop] at hx
        split at hx
        · simp only [Option.some.injEq, Prod.mk.injEq] at hx
          obtain ⟨rfl, rfl⟩ := hx
          exact ok_b2s hop hs hd he hr hf hall ‹_› (.inl ⟨_, _, rfl, rfl⟩)
        · split at hx
          · rename_i cs hsrc
            cases hu : cs.all isU8
            · simp only [hu, cond_false] at hx; cases hx
            · simp only [hu, cond_true, Option.some.injEq, Prod.mk.injEq] at hx
              obtain ⟨rfl, rfl⟩ := hx
              exact ok_b2s hop hs hd he hr hf hall ‹_› (.inr ⟨_, _, _, cs, rfl, hsrc, hu, rfl⟩)
          · simp at hx
        · simp at hx
    · rename_i e0 e hs hd
      cases hb : (Nat.beq s d && isByte P e)
      · simp [hb] at hc
      · simp only [hb, cond_true, Option.some.injEq] at hc; subst hc
        obtain ⟨hsd, hb⟩ := Bool.and_eq_true_iff.1 hb
        have he : P.underlying e = some (.int .u8) := by
          unfold isByte at hb
          split at hb
          · assumption
          · simp at hb
        simp only [xop] at hx
        split at hx
        · rename_i B off l c hev
          split at hx
          · rename_i blk hblk
            cases hcond : (blk.ro || !(Nat.blt 0 c))
            · simp only [hcond, cond_false, Option.some.injEq, Prod.mk.injEq] at hx
              obtain ⟨rfl, rfl⟩ := hx
              obtain ⟨h1, h2⟩ := Bool.or_eq_false_iff.1 hcond
              exact ok_cvs hop hs hd (Nat.eq_of_beq_eq_true hsd) he hr hf hall hev hblk h1 (natlt (by simpa using h2))
            · simp only [hcond, cond_true] at hx; cases hx
          · simp at hx
        · simp at hx
    · simp only [Option.some.injEq] at hc; subst hc
      simp only [xop] at hx
      obtain ⟨h1, rfl⟩ := ev_none_some hx
      exact ok_flat hop rfl (by simp) hr hf (by rw [← hop]; exact hall2) h1
  | field t y i =>
    simp only [cRaw, hop] at hc
    simp [hop, Op.operands] at hall
    split at hc
    · split at hc
      · split at hc
        · simp only [Option.some.injEq] at hc; subst hc
          simp only [xop] at hx
          split at hx
          · obtain ⟨h1, rfl⟩ := ev_none_some hx
            exact ok_fld hop ‹_› ‹_› ‹_› hr hf hall ‹_› h1
          · simp at hx
        · simp at hc
      · simp at hc
    · simp at hc
  | fieldAddr t y i =>
    simp only [cRaw, hop] at hc
    simp [hop, Op.operands] at hall
    split at hc
    · split at hc
      · split at hc
        · simp only [Option.some.injEq] at hc; subst hc
          simp only [xop] at hx
          split at hx
          · simp only [Option.some.injEq, Prod.mk.injEq] at hx
            obtain ⟨rfl, rfl⟩ := hx
            exact ok_fldA hop ‹_› ‹_› ‹_› hr hf hall ‹_›
          · simp at hx
        · simp at hc
      · simp at hc
    · simp at hc
  | indexAddr t y i =>
    simp only [cRaw, hop] at hc
    simp [hop, Op.operands] at hall
    split at hc
    · split at hc
      · simp only [Option.some.injEq] at hc; subst hc
        simp only [xop] at hx
        split at hx
        · rename_i B off l c ik k hy hi
          cases hcond : (Nat.blt k l && Nat.ble l c)
          · simp only [hcond, cond_false] at hx; cases hx
          · simp only [hcond, cond_true, Option.some.injEq, Prod.mk.injEq] at hx
            obtain ⟨rfl, rfl⟩ := hx
            obtain ⟨h1, h2⟩ := Bool.and_eq_true_iff.1 hcond
            exact ok_idxA hop ‹_› ‹_› hr hf hall.1 hall.2 hy hi (natlt h1) (Nat.le_of_ble_eq_true h2)
        · simp at hx
      · simp at hc
    · split at hc
      · rename_i n _ _ _ _ _
        simp only [Option.some.injEq] at hc; subst hc
        simp only [xop] at hx
        split at hx
        · rename_i B off ik k hy hi
          cases hcond : Nat.blt k n
          · simp only [hcond, cond_false] at hx; cases hx
          · simp only [hcond, cond_true, Option.some.injEq, Prod.mk.injEq] at hx
            obtain ⟨rfl, rfl⟩ := hx
            exact ok_idxAA hop ‹_› ‹_› hr hf hall.1 hall.2 hy hi (natlt hcond)
        · simp at hx
      · simp at hc
    · simp at hc
  | index t y i =>
    have hall2 := hall
    simp [hop, Op.operands] at hall
    simp only [cRaw, hop] at hc
    split at hc
    · rename_i n e hu
      split at hc
      · rename_i sz k hs hk
        simp only [Option.some.injEq] at hc; subst hc
        simp only [xop] at hx
        split at hx
        · rename_i cs ik j hy hi
          cases hcond : Nat.blt j n
          · simp only [hcond, cond_false] at hx; cases hx
          · simp only [hcond, cond_true] at hx
            obtain ⟨h1, rfl⟩ := ev_none_some hx
            exact ok_idxV hop hu hs hk hr hf hall.1 hall.2 hy hi (natlt hcond) h1
        · simp at hx
      · simp at hc
    · simp only [Option.some.injEq] at hc; subst hc
      simp only [xop] at hx
      obtain ⟨h1, rfl⟩ := ev_none_some hx
      exact ok_flat hop rfl (by simp) hr hf (by rw [← hop]; exact hall2) h1
  | makeSlice t y z =>
    simp only [cRaw, hop] at hc
    simp [hop, Op.operands] at hall
    split at hc
    · rename_i e hu
      split at hc
      · rename_i zs i hz hi
        cases hcond : (Nat.beq zs.length i.size && Nat.ble 1 i.size)
        · simp only [hcond, cond_false] at hc; cases hc
        · simp only [hcond, cond_true, Option.some.injEq] at hc; subst hc
          obtain ⟨h1, h2⟩ := Bool.and_eq_true_iff.1 hcond
          simp only [xop] at hx
          split at hx
          · rename_i k1 l k2 c hy hz'
            cases hcond2 : (Nat.ble l c && Nat.ble (c * i.bytes) 140737488355328 && Nat.ble c 140737488355328)
            · simp only [hcond2, cond_false] at hx; cases hx
            · simp only [hcond2, cond_true, Option.some.injEq, Prod.mk.injEq] at hx
              obtain ⟨rfl, rfl⟩ := hx
              obtain ⟨g12, g3⟩ := Bool.and_eq_true_iff.1 hcond2
              obtain ⟨g1, g2⟩ := Bool.and_eq_true_iff.1 g12
              exact ok_mks hop hu hz hi (Nat.eq_of_beq_eq_true h1) (Nat.le_of_ble_eq_true h2) hr hf hall.1 hall.2 hy hz' (Nat.le_of_ble_eq_true g1) (Nat.le_of_ble_eq_true g2) (Nat.le_of_ble_eq_true g3)
          · simp at hx
      · simp at hc
    · simp at hc
  | slice t y lo hi mx =>
    have hall2 := hall
    have hy : okOpnd P.globals.size y = true ∧ (∀ z, lo = some z → okOpnd P.globals.size z = true) ∧ (∀ z, hi = some z → okOpnd P.globals.size z = true) ∧ (∀ z, mx = some z → okOpnd P.globals.size z = true) := by
      rw [hop] at hall
      have h := Array.all_eq_true'.1 hall
      refine ⟨h y (by simp [Op.operands]), fun z hz => h z (by simp [Op.operands, hz]), fun z hz => h z (by simp [Op.operands, hz]), fun z hz => h z (by simp [Op.operands, hz])⟩
    obtain ⟨o1, o2, o3, o4⟩ := hy
    have hmh : ∀ {mx hi : Option Operand}, (isSome' mx && !(isSome' hi)) = false → mx.isSome = true → hi.isSome = true := by
      intro mx hi h1 h2
      cases mx <;> cases hi <;> simp_all [isSome']
    simp only [cRaw, hop] at hc
    split at hc
    · simp only [Option.some.injEq] at hc; subst hc
      simp only [xop] at hx
      obtain ⟨h1, rfl⟩ := ev_none_some hx
      exact ok_flat hop rfl (by simp) hr hf (by rw [← hop]; exact hall2) h1
    · split at hc
      · simp only [Option.some.injEq] at hc; subst hc
        simp only [xop] at hx
        split at hx
        · rename_i v1 va vb vc e1 e2 e3 e4
          cases hcond : (isSome' mx && !(isSome' hi))
          · simp only [hcond, cond_false] at hx
            obtain ⟨h1, rfl⟩ := ev_none_some hx
            exact ok_slc hop ‹_› ‹_› hr hf o1 o2 o3 o4 e1 e2 e3 e4 (hmh hcond) h1
          · simp only [hcond, cond_true] at hx; cases hx
        · simp at hx
      · simp at hc
    · split at hc
      · simp only [Option.some.injEq] at hc; subst hc
        simp only [xop] at hx
        split at hx
        · rename_i v1 va vb vc e1 e2 e3 e4
          cases hcond : (isSome' mx && !(isSome' hi))
          · simp only [hcond, cond_false] at hx
            obtain ⟨h1, rfl⟩ := ev_none_some hx
            exact ok_slcA hop ‹_› ‹_› hr hf o1 o2 o3 o4 e1 e2 e3 e4 (hmh hcond) h1
          · simp only [hcond, cond_true] at hx; cases hx
        · simp at hx
      · simp at hc
    · simp at hc
  | makeFunc fn f1 c1 =>
    simp only [cRaw, hop, Option.some.injEq] at hc; subst hc
    have ho : ∀ x, x ∈ f1 ∨ x ∈ c1 → okOpnd P.globals.size x = true := by
      rw [hop] at hall
      have h := Array.all_eq_true'.1 hall
      intro x hx; exact h x (by simpa [Op.operands] using hx)
    simp only [xop] at hx
    split at hx
    · simp only [Option.some.injEq, Prod.mk.injEq] at hx
      obtain ⟨rfl, rfl⟩ := hx
      exact ok_mkf hop hr hf (fun x hx => ho x (.inl (by simpa using hx))) (fun x hx => ho x (.inr (by simpa using hx))) ‹_› ‹_›
    · simp at hx
  | extract y i =>
    simp only [cRaw, hop, Option.some.injEq] at hc; subst hc
    simp [hop, Op.operands] at hall
    simp only [xop] at hx
    split at hx
    · obtain ⟨h1, rfl⟩ := ev_none_some hx
      exact ok_ext hop hr hf hall ‹_› h1
    · simp at hx
  | makeInterface t y =>
    simp only [cRaw, hop] at hc
    simp [hop, Op.operands] at hall
    split at hc
    · simp at hc
    · rename_i d hd hd2
      simp only [Option.some.injEq] at hc; subst hc
      simp only [xop] at hx
      split at hx
      · simp only [Option.some.injEq, Prod.mk.injEq] at hx
        obtain ⟨rfl, rfl⟩ := hx
        exact ok_mkI hop hd2 (fun ms h => hd ms h) hr hf hall ‹_›
      · simp at hx
    · simp at hc
  | typeAssert y s t c =>
    simp only [cRaw, hop, Option.some.injEq] at hc; subst hc
    simp only [xop] at hx
    obtain ⟨h1, rfl⟩ := ev_none_some hx
    exact ok_flat hop rfl (by simp) hr hf (by rw [← hop]; exact hall) h1
  | call c =>
    have hall2 := hall
    have ho : ∀ x ∈ c.args.toList, okOpnd P.globals.size x = true := by
      rw [hop] at hall
      have h := Array.all_eq_true'.1 hall
      intro x hx; exact h x (by simp only [Op.operands, Call.operands]; exact Array.mem_append_right _ (by simpa using hx))
    simp only [cRaw, hop] at hc
    split at hc
    · simp only [Option.some.injEq] at hc; subst hc; simp [xop] at hx
    · simp only [Option.some.injEq] at hc; subst hc; simp [xop] at hx
    · simp at hc
    · rename_i b hcb
      have hflat : ∀ {v H'}, xop P fr H (.flat (.call c) o.type) = some (v, H') → OpOk P P.globals.size base W0 o a w m H v H' := by
        intro v H' hx
        simp only [xop] at hx
        obtain ⟨h1, rfl⟩ := ev_none_some hx
        exact ok_flat hop rfl (by simp) hr hf (by rw [← hop]; exact hall2) h1
      split at hc
      · split at hc
        · rename_i t y ht hargs
          rw [hargs] at ho
          split at hc
          · rename_i e hu
            simp only [Option.some.injEq] at hc; subst hc
            simp only [xop] at hx
            split at hx
            · simp only [Option.some.injEq, Prod.mk.injEq] at hx
              obtain ⟨rfl, rfl⟩ := hx
              exact ok_len hop hcb ht hargs (.inl ⟨_, hu⟩) hr hf (ho y (by simp)) ‹_› (.inl ⟨⟨_, _, rfl⟩, _, hu⟩)
            · simp at hx
          · rename_i hu
            simp only [Option.some.injEq] at hc; subst hc
            simp only [xop] at hx
            split at hx
            · simp only [Option.some.injEq, Prod.mk.injEq] at hx
              obtain ⟨rfl, rfl⟩ := hx
              exact ok_len hop hcb ht hargs (.inr hu) hr hf (ho y (by simp)) ‹_› (.inr ⟨⟨_, rfl, rfl⟩, hu⟩)
            · simp at hx
          · simp only [Option.some.injEq] at hc; subst hc; exact hflat hx
        · simp at hc
      · split at hc
        · rename_i t y ht hargs
          rw [hargs] at ho
          split at hc
          · rename_i e hu
            simp only [Option.some.injEq] at hc; subst hc
            simp only [xop] at hx
            split at hx
            · simp only [Option.some.injEq, Prod.mk.injEq] at hx
              obtain ⟨rfl, rfl⟩ := hx
              exact ok_cap (n := 0) hop hcb ht hargs hu hr hf (ho y (by simp)) ‹_› (.inl ⟨rfl, rfl⟩)
            · split at hx
              · rename_i B off l c' _ _ blk hb
                cases hcond : (!blk.opn || Nat.blt (off + c' * blk.sz) blk.cells.length)
                · simp only [hcond, cond_false] at hx; cases hx
                · simp only [hcond, cond_true, Option.some.injEq, Prod.mk.injEq] at hx
                  obtain ⟨rfl, rfl⟩ := hx
                  refine ok_cap hop hcb ht hargs hu hr hf (ho y (by simp)) ‹_› (.inr ⟨_, _, _, blk, rfl, hb, ?_⟩)
                  simp only [Bool.or_eq_true, Bool.not_eq_true'] at hcond
                  exact hcond.imp id natlt
              · simp at hx
            · simp at hx
          · simp at hc
        · simp at hc
      · split at hc
        · rename_i t u y z ht hu' hargs
          rw [hargs] at ho
          split at hc
          · rename_i e hu
            split at hc
            · rename_i zs i kd hz hi hd
              cases hzl : (Nat.beq zs.length i.size && Nat.ble 1 i.size)
              · simp only [hzl, cond_false] at hc; cases hc
              · simp only [hzl, cond_true, Option.some.injEq] at hc; subst hc
                obtain ⟨hzl, hs1⟩ := Bool.and_eq_true_iff.1 hzl
                simp only [xop] at hx
                split at hx
                · exact ok_appN hop hcb ht hu' hargs hu hd hz hi (Nat.eq_of_beq_eq_true hzl) (Nat.le_of_ble_eq_true hs1) hr hf (ho y (by simp)) (ho z (by simp)) ‹_› ‹_› hx
                · simp at hx
            · rename_i zs i d hne hz hi hd
              cases hzl : (Nat.beq zs.length i.size && Nat.ble 1 i.size)
              · simp only [hzl, cond_false] at hc; cases hc
              · simp only [hzl, cond_true, Option.some.injEq] at hc; subst hc
                obtain ⟨hzl, hs1⟩ := Bool.and_eq_true_iff.1 hzl
                simp only [xop] at hx
                split at hx
                · exact ok_app hop hcb ht hu' hargs hu hd (fun k h => hne k h) hz hi (Nat.eq_of_beq_eq_true hzl) (Nat.le_of_ble_eq_true hs1) hr hf (ho y (by simp)) (ho z (by simp)) ‹_› ‹_› hx
                · simp at hx
            · simp at hc
          · simp at hc
        · simp at hc
      · split at hc
        · rename_i t y z ht hargs
          rw [hargs] at ho
          split at hc
          · split at hc
            · simp only [Option.some.injEq] at hc; subst hc
              simp only [xop] at hx
              split at hx
              · exact ok_copy hop hcb ht hargs ‹_› ‹_› hr hf (ho y (by simp)) (ho z (by simp)) ‹_› ‹_› hx
              · simp at hx
            · simp at hc
          · simp at hc
        · simp at hc
      · split at hc
        · rename_i t y ht hargs
          rw [hargs] at ho
          split at hc
          · rename_i e hu
            split at hc
            · rename_i zs sz hz hsz
              cases hzl : Nat.beq zs.length sz
              · simp only [hzl, cond_false] at hc; cases hc
              · simp only [hzl, cond_true, Option.some.injEq] at hc; subst hc
                simp only [xop] at hx
                split at hx
                · exact ok_clear hop hcb ht hargs hu hz (Nat.eq_of_beq_eq_true hzl) hr hf (ho y (by simp)) ‹_› hx
                · simp at hx
            · simp at hc
          · simp at hc
        · simp at hc
      · simp only [Option.some.injEq] at hc; subst hc; exact hflat hx
      · simp only [Option.some.injEq] at hc; subst hc; exact hflat hx
      · simp at hc
  | _ => simp [cRaw, hop] at hc

end Go.Det
