/- What runs of the program's functions compute, on a heap of the run's own, and that the machine does what such a run says: the conditions stand in each theorem. -/
import Derived.Test.YtjeifppefhplhaaDoorBkM1
set_option linter.unusedSimpArgs false
set_option linter.unusedVariables false
namespace Go.Det

variable {P : Program} {base : Nat} {W0 : World} {m : Mp} {H : AH} {w : World} {fr : Fr} {a : Act} {o : Oper}

theorem blkSz_pos (P : Program) (t : TypeId) : 0 < blkSz P t := by
  unfold blkSz
  split
  · split <;> omega
  · omega

theorem ev_none_some {x : Option Value} {v : Value} {H H' : AH} (h : (match x with | some v => some (v, H) | none => none) = some (v, H')) : x = some v ∧ H' = H := by
  cases x <;> simp at h
  exact ⟨by simp [h.1], h.2.symm⟩

set_option maxHeartbeats 1000000 in
theorem xop_sound {x : XOp} (hc : cOp P o = some x) {v : Value} {H' : AH} (hx : xop P fr H x = some (v, H')) (hr : HRel P.globals.size base W0 m H w) (hf : FrRel m fr a.tmps) :
    OpOk P P.globals.size base W0 o a w m H v H' := by
  unfold cOp at hc
  cases hall : o.op.operands.all (okOpnd P.globals.size)
  · simp [hall] at hc
  simp only [hall, cond_true] at hc
  cases hop : o.op with
  | move y =>
    simp only [cRaw, hop, Option.some.injEq] at hc; subst hc
    simp [hop, Op.operands] at hall
    obtain ⟨h1, rfl⟩ := ev_none_some hx
    exact ok_mov (.inl hop) hr hf hall h1
  | assign y =>
    simp only [cRaw, hop, Option.some.injEq] at hc; subst hc
    simp [hop, Op.operands] at hall
    obtain ⟨h1, rfl⟩ := ev_none_some hx
    exact ok_mov (.inr hop) hr hf hall h1
  | pick c y z =>
    simp only [cRaw, hop, Option.some.injEq] at hc; subst hc
    simp [hop, Op.operands] at hall
    simp only [xop] at hx
    split at hx
    · obtain ⟨h1, rfl⟩ := ev_none_some hx
      exact ok_pick (b := true) hop hr hf hall.1 hall.2.1 hall.2.2 ‹_› h1
    · obtain ⟨h1, rfl⟩ := ev_none_some hx
      exact ok_pick (b := false) hop hr hf hall.1 hall.2.1 hall.2.2 ‹_› h1
    · simp at hx
  | alloc t =>
    simp only [cRaw, hop] at hc
    split at hc
    · rename_i zs hzs
      split at hc
      · split at hc
        · simp only [Option.some.injEq] at hc; subst hc
          simp only [xop, Option.some.injEq, Prod.mk.injEq] at hx
          obtain ⟨rfl, rfl⟩ := hx
          exact ok_mkb hop hzs hr
        · simp at hc
      · simp only [Option.some.injEq] at hc; subst hc
        simp only [xop, Option.some.injEq, Prod.mk.injEq] at hx
        obtain ⟨rfl, rfl⟩ := hx
        exact ok_new _ (blkSz_pos P t) hop hzs hr
    · simp at hc
  | box t y =>
    simp only [cRaw, hop, Option.some.injEq] at hc; subst hc
    simp [hop, Op.operands] at hall
    simp only [xop] at hx
    split at hx
    · simp only [Option.some.injEq, Prod.mk.injEq] at hx
      obtain ⟨rfl, rfl⟩ := hx
      exact ok_box _ (blkSz_pos P t) hop hr hf hall ‹_›
    · simp at hx
  | build t ps =>
    simp only [cRaw, hop] at hc
    have hall' : ∀ q ∈ ps.toList, okOpnd P.globals.size q.2 = true := by
      intro q hq
      rw [hop] at hall
      simp only [Op.operands, List.all_toArray, List.all_map, List.all_eq_true] at hall
      exact hall q hq
    split at hc
    · split at hc
      · rename_i fs hu _ _ zs l hz hl
        cases hfl : fs.toList.all (fun f => (sizeAt P f.type).isSome)
        · simp only [hfl, cond_false] at hc; cases hc
        · simp only [hfl, cond_true, Option.some.injEq] at hc; subst hc
          simp only [xop] at hx
          split at hx
          · simp only [Option.some.injEq, Prod.mk.injEq] at hx
            obtain ⟨rfl, rfl⟩ := hx
            exact ok_buildS hop hu hz hl hfl hr hf hall' ‹_›
          · simp at hx
      · simp at hc
    · split at hc
      · simp only [Option.some.injEq] at hc; subst hc
        simp only [xop] at hx
        split at hx
        · simp only [Option.some.injEq, Prod.mk.injEq] at hx
          obtain ⟨rfl, rfl⟩ := hx
          exact ok_buildA hop ‹_› ‹_› ‹_› hr hf hall' ‹_›
        · simp at hx
      · simp at hc
    · simp at hc
  | buildSlice t n ps =>
    simp only [cRaw, hop] at hc
    have hall' : ∀ q ∈ ps.toList, okOpnd P.globals.size q.2 = true := by
      intro q hq
      rw [hop] at hall
      simp only [Op.operands, List.all_toArray, List.all_map, List.all_eq_true] at hall
      exact hall q hq
    split at hc
    · rename_i _ e hu
      split at hc
      · rename_i zs sz hz hs
        cases hcond : (Nat.ble (n * sz) 16777216 && Nat.beq zs.length sz && Nat.ble 1 sz)
        · simp only [hcond, cond_false] at hc; cases hc
        · simp only [hcond, cond_true, Option.some.injEq] at hc; subst hc
          obtain ⟨h12, h3⟩ := Bool.and_eq_true_iff.1 hcond
          obtain ⟨h1, h2⟩ := Bool.and_eq_true_iff.1 h12
          simp only [xop] at hx
          split at hx
          · rename_i r hfill
            simp only [Option.some.injEq, Prod.mk.injEq] at hx
            obtain ⟨rfl, rfl⟩ := hx
            have hzl : zs.length = sz := Nat.eq_of_beq_eq_true h2
            have hlen : r.length = n * sz := by
              have key : ∀ (ps : List (Nat × Nat × Operand)) (cs r : List Value), xfill fr ps cs = some r → r.length = cs.length := by
                intro ps
                induction ps with
                | nil => intro cs r h; simp [xfill] at h; subst h; rfl
                | cons p ps ih =>
                  obtain ⟨off, k, y⟩ := p
                  intro cs r h
                  simp only [xfill] at h
                  split at h
                  · rename_i u hu
                    cases hcnd : (Nat.beq (vcells u).length k && Nat.ble (off + k) cs.length && (vcells u).all one)
                    · simp only [hcnd, cond_false] at h; cases h
                    · simp only [hcnd, cond_true] at h
                      obtain ⟨g12, _⟩ := Bool.and_eq_true_iff.1 hcnd
                      obtain ⟨g1, g2⟩ := Bool.and_eq_true_iff.1 g12
                      rw [ih _ _ h, splice_length]
                      rw [Nat.eq_of_beq_eq_true g1]; exact Nat.le_of_ble_eq_true g2
                  · simp at h
              rw [key _ _ _ hfill, rep_length, hzl]
            exact ok_bslice hop hu hz hs (Nat.le_of_ble_eq_true h1) hzl (Nat.le_of_ble_eq_true h3) hr hf hall' hfill hlen
          · simp at hx
      · simp at hc
    · simp at hc
  | load t y =>
    simp only [cRaw, hop] at hc
    simp [hop, Op.operands] at hall
    split at hc
    · simp only [Option.some.injEq] at hc; subst hc
      simp only [xop] at hx
      split at hx
      · split at hx
        · obtain ⟨h1, rfl⟩ := ev_none_some hx
          exact ok_ld hop ‹_› hr hf hall ‹_› ‹_› h1
        · simp at hx
      · simp at hx
    · simp at hc
  | store t y z =>
    simp only [cRaw, hop] at hc
    simp [hop, Op.operands] at hall
    split at hc
    · rename_i n hn
      simp only [Option.some.injEq] at hc; subst hc
      simp only [xop] at hx
      split at hx
      · rename_i B off u hy hz
        split at hx
        · rename_i blk hb
          cases hcond : (Nat.beq (vcells u).length n && (vcells u).all one && !blk.ro && Nat.ble (off + n) blk.cells.length)
          · simp only [hcond, cond_false] at hx; cases hx
          · simp only [hcond, cond_true, Option.some.injEq, Prod.mk.injEq] at hx
            obtain ⟨rfl, rfl⟩ := hx
            obtain ⟨h123, h4⟩ := Bool.and_eq_true_iff.1 hcond
            obtain ⟨h12, h3⟩ := Bool.and_eq_true_iff.1 h123
            obtain ⟨h1, h2⟩ := Bool.and_eq_true_iff.1 h12
            exact ok_st hop hn hr hf hall.1 hall.2 hy hz hb (Nat.eq_of_beq_eq_true h1) h2 (by simpa using h3) (Nat.le_of_ble_eq_true h4)
        · simp at hx
      · simp at hx
    · simp at hc
  | nilCheck y =>
    simp only [cRaw, hop, Option.some.injEq] at hc; subst hc
    simp [hop, Op.operands] at hall
    simp only [xop] at hx
    split at hx
    · simp only [Option.some.injEq, Prod.mk.injEq] at hx
      obtain ⟨rfl, rfl⟩ := hx
      exact ok_nilck hop hr hf hall ‹_› (.inl ⟨_, rfl⟩)
    · simp only [Option.some.injEq, Prod.mk.injEq] at hx
      obtain ⟨rfl, rfl⟩ := hx
      exact ok_nilck hop hr hf hall ‹_› (.inr ⟨_, _, _, rfl⟩)
    · simp at hx
  | binOp op t y z ty =>
    have hall2 := hall
    simp [hop, Op.operands] at hall
    have hbin : ∀ {v H'}, xop P fr H (.bin op y z) = some (v, H') → OpOk P P.globals.size base W0 o a w m H v H' := by
      intro v H' hx
      simp only [xop] at hx
      split at hx
      · obtain ⟨h1, rfl⟩ := ev_none_some hx
        exact ok_bin hop hr hf hall.1 hall.2 ‹_› ‹_› h1
      · simp at hx
    have hflat : ∀ {v H'}, xop P fr H (.flat (.binOp op t y z ty) o.type) = some (v, H') → OpOk P P.globals.size base W0 o a w m H v H' := by
      intro v H' hx
      simp only [xop] at hx
      obtain ⟨h1, rfl⟩ := ev_none_some hx
      exact ok_flat hop rfl (by simp) hr hf (by rw [← hop]; exact hall2) h1
    simp only [cRaw, hop] at hc
    split at hc
    · split at hc
      · simp only [Option.some.injEq] at hc; subst hc
        simp only [xop] at hx
        split at hx
        · split at hx
          · simp only [Option.some.injEq, Prod.mk.injEq] at hx
            obtain ⟨rfl, rfl⟩ := hx
            exact ok_isnil false hop rfl ‹_› hr hf hall.1 ‹_› ‹_›
          · simp at hx
        · simp at hx
      · cases hi : intOrStr P t
        · simp only [hi, cond_false, Option.some.injEq] at hc; subst hc; exact hflat hx
        · simp only [hi, cond_true, Option.some.injEq] at hc; subst hc; exact hbin hx
    · split at hc
      · simp only [Option.some.injEq] at hc; subst hc
        simp only [xop] at hx
        split at hx
        · split at hx
          · simp only [Option.some.injEq, Prod.mk.injEq] at hx
            obtain ⟨rfl, rfl⟩ := hx
            exact ok_isnil true hop rfl ‹_› hr hf hall.1 ‹_› ‹_›
          · simp at hx
        · simp at hx
      · cases hi : intOrStr P t
        · simp only [hi, cond_false, Option.some.injEq] at hc; subst hc; exact hflat hx
        · simp only [hi, cond_true, Option.some.injEq] at hc; subst hc; exact hbin hx
    · simp only [Option.some.injEq] at hc; subst hc; exact hbin hx
  | unOp op t y =>
    simp only [cRaw, hop, Option.some.injEq] at hc; subst hc
    simp only [xop] at hx
    obtain ⟨h1, rfl⟩ := ev_none_some hx
    exact ok_flat hop rfl (by simp) hr hf (by rw [← hop]; exact hall) h1
  | convert s d y =>
    have hall2 := hall
    simp [hop, Op.operands] at hall
    simp only [cRaw, hop] at hc
    split at hc
    · simp only [Option.some.injEq] at hc; subst hc
      simp only [xop] at hx
      split at hx
      · simp only [Option.some.injEq, Prod.mk.injEq] at hx
        obtain ⟨rfl, rfl⟩ := hx
        exact ok_conv hop ‹_› ‹_› hr hf hall ‹_›
      · simp at hx
    · rename_i e hs hd
      cases hb : isByte P e
      · simp [hb] at hc
      · simp only [hb, cond_true, Option.some.injEq] at hc; subst hc
        have he : P.underlying e = some (.int .u8) := by
          unfold isByte at hb
          split at hb
          · assumption
          · simp at hb
        simp only [xop] at hx
        split at hx
        · simp only [Option.some.injEq, Prod.mk.injEq] at hx
          obtain ⟨rfl, rfl⟩ := hx
          exact ok_s2b hop hs hd he hr hf hall ‹_›
        · simp at hx
    · rename_i e hs hd
      cases hb : isByte P e
      · simp [hb] at hc
      · simp only [hb, cond_true, Option.some.injEq] at hc; subst hc
        have he : P.underlying e = some (.int .u8) := by
          unfold isByte at hb
          split at hb
          · assumption
          · simp at hb
        simp only [xop] at hx
        split at hx
        · simp only [Option.some.injEq, Prod.mk.injEq] at hx
          obtain ⟨rfl, rfl⟩ := hx
          exact ok_b2s hop hs hd he hr hf hall ‹_› (.inl ⟨_, _, rfl, rfl⟩)
        · split at hx
          · rename_i cs hsrc
            cases hu : cs.all isU8
            · simp only [hu, cond_false] at hx; cases hx
            · simp only [hu, cond_true, Option.some.injEq, Prod.mk.injEq] at hx
              obtain ⟨rfl, rfl⟩ := hx
              exact ok_b2s hop hs hd he hr hf hall ‹_› (.inr ⟨_, _, _, cs, rfl, hsrc, hu, rfl⟩)
          · simp at hx
        · simp at hx
    · rename_i e0 e hs hd
      cases hb : (Nat.beq s d && isByte P e)
      · simp [hb] at hc
      · simp only [hb, cond_true, Option.some.injEq] at hc; subst hc
        obtain ⟨hsd, hb⟩ := Bool.and_eq_true_iff.1 hb
        have he : P.underlying e = some (.int .u8) := by
          unfold isByte at hb
          split at hb
          · assumption
          · simp at hb
        simp only [xop] at hx
        split at hx
        · rename_i B off l c hev
          split at hx
          · rename_i blk hblk
            cases hcond : (blk.ro || !(Nat.blt 0 c))
            · simp only [hcond, cond_false, Option.some.injEq, Prod.mk.injEq] at hx
              obtain ⟨rfl, rfl⟩ := hx
              obtain ⟨h1, h2⟩ := Bool.or_eq_false_iff.1 hcond
              exact ok_cvs hop hs hd (Nat.eq_of_beq_eq_true hsd) he hr hf hall hev hblk h1 (natlt (by simpa using h2))
            · simp only [hcond, cond_true] at hx; cases hx
          · simp at hx
        · simp at hx
    · simp only [Option.some.injEq] at hc; subst hc
      simp only [xop] at hx
      obtain ⟨h1, rfl⟩ := ev_none_some hx
      exact ok_flat hop rfl (by simp) hr hf (by rw [← hop]; exact hall2) h1
  | field t y i =>
    simp only [cRaw, hop] at hc
    simp [hop, Op.operands] at hall
    split at hc
    · split at hc
      · split at hc
        · simp only [Option.some.injEq] at hc; subst hc
          simp only [xop] at hx
          split at hx
          · obtain ⟨h1, rfl⟩ := ev_none_some hx
            exact ok_fld hop ‹_› ‹_› ‹_› hr hf hall ‹_› h1
          · simp at hx
        · simp at hc
      · simp at hc
    · simp at hc
  | fieldAddr t y i =>
    simp only [cRaw, hop] at hc
    simp [hop, Op.operands] at hall
    split at hc
    · split at hc
      · split at hc
        · simp only [Option.some.injEq] at hc; subst hc
          simp only [xop] at hx
          split at hx
          · simp only [Option.some.injEq, Prod.mk.injEq] at hx
            obtain ⟨rfl, rfl⟩ := hx
            exact ok_fldA hop ‹_› ‹_› ‹_› hr hf hall ‹_›
          · simp at hx
        · simp at hc
      · simp at hc
    · simp at hc
  | indexAddr t y i =>
    simp only [cRaw, hop] at hc
    simp [hop, Op.operands] at hall
    split at hc
    · split at hc
      · simp only [Option.some.injEq] at hc; subst hc
        simp only [xop] at hx
        split at hx
        · rename_i B off l c ik k hy hi
          cases hcond : (Nat.blt k l && Nat.ble l c)
          · simp only [hcond, cond_false] at hx; cases hx
          · simp only [hcond, cond_true, Option.some.injEq, Prod.mk.injEq] at hx
            obtain ⟨rfl, rfl⟩ := hx
            obtain ⟨h1, h2⟩ := Bool.and_eq_true_iff.1 hcond
            exact ok_idxA hop ‹_› ‹_› hr hf hall.1 hall.2 hy hi (natlt h1) (Nat.le_of_ble_eq_true h2)
        · simp at hx
      · simp at hc
    · split at hc
      · rename_i n _ _ _ _ _
        simp only [Option.some.injEq] at hc; subst hc
        simp only [xop] at hx
        split at hx
        · rename_i B off ik k hy hi
          cases hcond : Nat.blt k n
          · simp only [hcond, cond_false] at hx; cases hx
          · simp only [hcond, cond_true, Option.some.injEq, Prod.mk.injEq] at hx
            obtain ⟨rfl, rfl⟩ := hx
            exact ok_idxAA hop ‹_› ‹_› hr hf hall.1 hall.2 hy hi (natlt hcond)
        · simp at hx
      · simp at hc
    · simp at hc
  | index t y i =>
    have hall2 := hall
    simp [hop, Op.operands] at hall
    simp only [cRaw, hop] at hc
    split at hc
    · rename_i n e hu
      split at hc
      · rename_i sz k hs hk
        simp only [Option.some.injEq] at hc; subst hc
        simp only [xop] at hx
        split at hx
        · rename_i cs ik j hy hi
          cases hcond : Nat.blt j n
          · simp only [hcond, cond_false] at hx; cases hx
          · simp only [hcond, cond_true] at hx
            obtain ⟨h1, rfl⟩ := ev_none_some hx
            exact ok_idxV hop hu hs hk hr hf hall.1 hall.2 hy hi (natlt hcond) h1
        · simp at hx
      · simp at hc
    · simp only [Option.some.injEq] at hc; subst hc
      simp only [xop] at hx
      obtain ⟨h1, rfl⟩ := ev_none_some hx
      exact ok_flat hop rfl (by simp) hr hf (by rw [← hop]; exact hall2) h1
  | makeSlice t y z =>
    simp only [cRaw, hop] at hc
    simp [hop, Op.operands] at hall
    split at hc
    · rename_i e hu
      split at hc
      · rename_i zs i hz hi
        cases hcond : (Nat.beq zs.length i.size && Nat.ble 1 i.size)
        · simp only [hcond, cond_false] at hc; cases hc
        · simp only [hcond, cond_true, Option.some.injEq] at hc; subst hc
          obtain ⟨h1, h2⟩ := Bool.and_eq_true_iff.1 hcond
          simp only [xop] at hx
          split at hx
          · rename_i k1 l k2 c hy hz'
            cases hcond2 : (Nat.ble l c && Nat.ble (c * i.bytes) 140737488355328 && Nat.ble c 140737488355328)
            · simp only [hcond2, cond_false] at hx; cases hx
            · simp only [hcond2, cond_true, Option.some.injEq, Prod.mk.injEq] at hx
              obtain ⟨rfl, rfl⟩ := hx
              obtain ⟨g12, g3⟩ := Bool.and_eq_true_iff.1 hcond2
              obtain ⟨g1, g2⟩ := Bool.and_eq_true_iff.1 g12
              exact ok_mks hop hu hz hi (Nat.eq_of_beq_eq_true h1) (Nat.le_of_ble_eq_true h2) hr hf hall.1 hall.2 hy hz' (Nat.le_of_ble_eq_true g1) (Nat.le_of_ble_eq_true g2) (Nat.le_of_ble_eq_true g3)
          · simp at hx
      · simp at hc
    · simp at hc
  | slice t y lo hi mx =>
    have hall2 := hall
    have hy : okOpnd P.globals.size y = true ∧ (∀ z, lo = some z → okOpnd P.globals.size z = true) ∧ (∀ z, hi = some z → okOpnd P.globals.size z = true) ∧ (∀ z, mx = some z → okOpnd P.globals.size z = true) := by
      rw [hop] at hall
      have h := Array.all_eq_true'.1 hall
      refine ⟨h y (by simp [Op.operands]), fun z hz => h z (by simp [Op.operands, hz]), fun z hz => h z (by simp [Op.operands, hz]), fun z hz => h z (by simp [Op.operands, hz])⟩
    obtain ⟨o1, o2, o3, o4⟩ := hy
    have hmh : ∀ {mx hi : Option Operand}, (isSome' mx && !(isSome' hi)) = false → mx.isSome = true → hi.isSome = true := by
      intro mx hi h1 h2
      cases mx <;> cases hi <;> simp_all [isSome']
    simp only [cRaw, hop] at hc
    split at hc
    · simp only [Option.some.injEq] at hc; subst hc
      simp only [xop] at hx
      obtain ⟨h1, rfl⟩ := ev_none_some hx
      exact ok_flat hop rfl (by simp) hr hf (by rw [← hop]; exact hall2) h1
    · split at hc
      · simp only [Option.some.injEq] at hc; subst hc
        simp only [xop] at hx
        split at hx
        · rename_i v1 va vb vc e1 e2 e3 e4
          cases hcond : (isSome' mx && !(isSome' hi))
          · simp only [hcond, cond_false] at hx
            obtain ⟨h1, rfl⟩ := ev_none_some hx
            exact ok_slc hop ‹_› ‹_› hr hf o1 o2 o3 o4 e1 e2 e3 e4 (hmh hcond) h1
          · simp only [hcond, cond_true] at hx; cases hx
        · simp at hx
      · simp at hc
    · split at hc
      · simp only [Option.some.injEq] at hc; subst hc
        simp only [xop] at hx
        split at hx
        · rename_i v1 va vb vc e1 e2 e3 e4
          cases hcond : (isSome' mx && !(isSome' hi))
          · simp only [hcond, cond_false] at hx
            obtain ⟨h1, rfl⟩ := ev_none_some hx
            exact ok_slcA hop ‹_› ‹_› hr hf o1 o2 o3 o4 e1 e2 e3 e4 (hmh hcond) h1
          · simp only [hcond, cond_true] at hx; cases hx
        · simp at hx
      · simp at hc
    · simp at hc
  | makeFunc fn f1 c1 =>
    simp only [cRaw, hop, Option.some.injEq] at hc; subst hc
    have ho : ∀ x, x ∈ f1 ∨ x ∈ c1 → okOpnd P.globals.size x = true := by
      rw [hop] at hall
      have h := Array.all_eq_true'.1 hall
      intro x hx; exact h x (by simpa [Op.operands] using hx)
    simp only [xop] at hx
    split at hx
    · simp only [Option.some.injEq, Prod.mk.injEq] at hx
      obtain ⟨rfl, rfl⟩ := hx
      exact ok_mkf hop hr hf (fun x hx => ho x (.inl (by simpa using hx))) (fun x hx => ho x (.inr (by simpa using hx))) ‹_› ‹_›
    · simp at hx
  | extract y i =>
    simp only [cRaw, hop, Option.some.injEq] at hc; subst hc
    simp [hop, Op.operands] at hall
    simp only [xop] at hx
    split at hx
    · obtain ⟨h1, rfl⟩ := ev_none_some hx
      exact ok_ext hop hr hf hall ‹_› h1
    · simp at hx
  | makeMap t r =>
    simp only [cRaw, hop] at hc
    cases r with
    | some y => simp at hc
    | none =>
      simp only [Option.some.injEq] at hc; subst hc
      simp only [xop, Option.some.injEq, Prod.mk.injEq] at hx
      obtain ⟨rfl, rfl⟩ := hx
      exact ok_mkm hop hr
  | lookup t y z c =>
    simp only [cRaw, hop] at hc
    simp [hop, Op.operands] at hall
    split at hc
    · rename_i kt e hu
      split at hc
      · rename_i zv hz
        cases hs : strKey P kt
        · simp only [hs, cond_false] at hc; cases hc
        · simp only [hs, cond_true, Option.some.injEq] at hc; subst hc
          simp only [xop] at hx
          split at hx
          · exact ok_mlk hop hu hz hs hr hf hall.1 hall.2 ‹_› ‹_› hx
          · simp at hx
      · simp at hc
    · simp at hc
  | mapUpdate t y z u =>
    simp only [cRaw, hop] at hc
    simp [hop, Op.operands] at hall
    split at hc
    · rename_i kt e hu
      cases hs : strKey P kt
      · simp only [hs, cond_false] at hc; cases hc
      · simp only [hs, cond_true, Option.some.injEq] at hc; subst hc
        simp only [xop] at hx
        split at hx
        · exact ok_mup hop hu hs hr hf hall.1 hall.2.1 hall.2.2 ‹_› ‹_› ‹_› hx
        · simp at hx
    · simp at hc
  | makeInterface t y =>
    simp only [cRaw, hop] at hc
    simp [hop, Op.operands] at hall
    split at hc
    · simp at hc
    · rename_i d hd hd2
      simp only [Option.some.injEq] at hc; subst hc
      simp only [xop] at hx
      split at hx
      · simp only [Option.some.injEq, Prod.mk.injEq] at hx
        obtain ⟨rfl, rfl⟩ := hx
        exact ok_mkI hop hd2 (fun ms h => hd ms h) hr hf hall ‹_›
      · simp at hx
    · simp at hc
  | typeAssert y s t c =>
    simp only [cRaw, hop, Option.some.injEq] at hc; subst hc
    simp only [xop] at hx
    obtain ⟨h1, rfl⟩ := ev_none_some hx
    exact ok_flat hop rfl (by simp) hr hf (by rw [← hop]; exact hall) h1
  | call c =>
    have hall2 := hall
    have ho : ∀ x ∈ c.args.toList, okOpnd P.globals.size x = true := by
      rw [hop] at hall
      have h := Array.all_eq_true'.1 hall
      intro x hx; exact h x (by simp only [Op.operands, Call.operands]; exact Array.mem_append_right _ (by simpa using hx))
    simp only [cRaw, hop] at hc
    split at hc
    · simp only [Option.some.injEq] at hc; subst hc; simp [xop] at hx
    · simp only [Option.some.injEq] at hc; subst hc; simp [xop] at hx
    · simp at hc
    · rename_i b hcb
      have hflat : ∀ {v H'}, xop P fr H (.flat (.call c) o.type) = some (v, H') → OpOk P P.globals.size base W0 o a w m H v H' := by
        intro v H' hx
        simp only [xop] at hx
        obtain ⟨h1, rfl⟩ := ev_none_some hx
        exact ok_flat hop rfl (by simp) hr hf (by rw [← hop]; exact hall2) h1
      split at hc
      · split at hc
        · rename_i t y ht hargs
          rw [hargs] at ho
          split at hc
          · rename_i e hu
            simp only [Option.some.injEq] at hc; subst hc
            simp only [xop] at hx
            split at hx
            · simp only [Option.some.injEq, Prod.mk.injEq] at hx
              obtain ⟨rfl, rfl⟩ := hx
              exact ok_len hop hcb ht hargs (.inl ⟨_, hu⟩) hr hf (ho y (by simp)) ‹_› (.inl ⟨⟨_, _, rfl⟩, _, hu⟩)
            · simp at hx
          · rename_i hu
            simp only [Option.some.injEq] at hc; subst hc
            simp only [xop] at hx
            split at hx
            · simp only [Option.some.injEq, Prod.mk.injEq] at hx
              obtain ⟨rfl, rfl⟩ := hx
              exact ok_len hop hcb ht hargs (.inr hu) hr hf (ho y (by simp)) ‹_› (.inr ⟨⟨_, rfl, rfl⟩, hu⟩)
            · simp at hx
          · simp only [Option.some.injEq] at hc; subst hc; exact hflat hx
        · simp at hc
      · split at hc
        · rename_i t y ht hargs
          rw [hargs] at ho
          split at hc
          · rename_i e hu
            simp only [Option.some.injEq] at hc; subst hc
            simp only [xop] at hx
            split at hx
            · simp only [Option.some.injEq, Prod.mk.injEq] at hx
              obtain ⟨rfl, rfl⟩ := hx
              exact ok_cap (n := 0) hop hcb ht hargs hu hr hf (ho y (by simp)) ‹_› (.inl ⟨rfl, rfl⟩)
            · split at hx
              · rename_i B off l c' _ _ blk hb
                cases hcond : (!blk.opn || Nat.blt (off + c' * blk.sz) blk.cells.length)
                · simp only [hcond, cond_false] at hx; cases hx
                · simp only [hcond, cond_true, Option.some.injEq, Prod.mk.injEq] at hx
                  obtain ⟨rfl, rfl⟩ := hx
                  refine ok_cap hop hcb ht hargs hu hr hf (ho y (by simp)) ‹_› (.inr ⟨_, _, _, blk, rfl, hb, ?_⟩)
                  simp only [Bool.or_eq_true, Bool.not_eq_true'] at hcond
                  exact hcond.imp id natlt
              · simp at hx
            · simp at hx
          · simp at hc
        · simp at hc
      · split at hc
        · rename_i t u y z ht hu' hargs
          rw [hargs] at ho
          split at hc
          · rename_i e hu
            split at hc
            · rename_i zs i kd hz hi hd
              cases hzl : (Nat.beq zs.length i.size && Nat.ble 1 i.size)
              · simp only [hzl, cond_false] at hc; cases hc
              · simp only [hzl, cond_true, Option.some.injEq] at hc; subst hc
                obtain ⟨hzl, hs1⟩ := Bool.and_eq_true_iff.1 hzl
                simp only [xop] at hx
                split at hx
                · exact ok_appN hop hcb ht hu' hargs hu hd hz hi (Nat.eq_of_beq_eq_true hzl) (Nat.le_of_ble_eq_true hs1) hr hf (ho y (by simp)) (ho z (by simp)) ‹_› ‹_› hx
                · simp at hx
            · rename_i zs i d hne hz hi hd
              cases hzl : (Nat.beq zs.length i.size && Nat.ble 1 i.size)
              · simp only [hzl, cond_false] at hc; cases hc
              · simp only [hzl, cond_true, Option.some.injEq] at hc; subst hc
                obtain ⟨hzl, hs1⟩ := Bool.and_eq_true_iff.1 hzl
                simp only [xop] at hx
                split at hx
                · exact ok_app hop hcb ht hu' hargs hu hd (fun k h => hne k h) hz hi (Nat.eq_of_beq_eq_true hzl) (Nat.le_of_ble_eq_true hs1) hr hf (ho y (by simp)) (ho z (by simp)) ‹_› ‹_› hx
                · simp at hx
            · simp at hc
          · simp at hc
        · simp at hc
      · split at hc
        · rename_i t y z ht hargs
          rw [hargs] at ho
          split at hc
          · split at hc
            · simp only [Option.some.injEq] at hc; subst hc
              simp only [xop] at hx
              split at hx
              · exact ok_copy hop hcb ht hargs ‹_› ‹_› hr hf (ho y (by simp)) (ho z (by simp)) ‹_› ‹_› hx
              · simp at hx
            · simp at hc
          · simp at hc
        · simp at hc
      · split at hc
        · rename_i t y ht hargs
          rw [hargs] at ho
          split at hc
          · rename_i e hu
            split at hc
            · rename_i zs sz hz hsz
              cases hzl : Nat.beq zs.length sz
              · simp only [hzl, cond_false] at hc; cases hc
              · simp only [hzl, cond_true, Option.some.injEq] at hc; subst hc
                simp only [xop] at hx
                split at hx
                · exact ok_clear hop hcb ht hargs hu hz (Nat.eq_of_beq_eq_true hzl) hr hf (ho y (by simp)) ‹_› hx
                · simp at hx
            · simp at hc
          · simp at hc
        · simp at hc
      · simp only [Option.some.injEq] at hc; subst hc; exact hflat hx
      · simp only [Option.some.injEq] at hc; subst hc; exact hflat hx
      · simp at hc
  | _ => simp [cRaw, hop] at hc

end Go.Det

set_option linter.unusedSimpArgs false
set_option linter.unusedVariables false
namespace Go.Det

/-! ### code -/
structure XOper where
  dst : Option Nat
  op : XOp
  gd : Option (Nat × Bool)

/-- an operation of a region whose order is drawn -/
structure XDop where
  x : XOper
  rd : List Nat
  kind : Nat
  stab : List Nat

inductive XCode where
  | skip
  | ops (l : List XOper) (keep : List Nat)
  | dops (l : List XDop) (keep : List Nat)
  | dalt (l1 l2 : List XDop) (keep : List Nat)
  | seq (a b : XCode)
  | cond (c : Operand) (a b : XCode)
  | block (id : Nat) (c : XCode)
  | loop (c : XCode)
  | exit (id : Nat)
  | ret
  deriving Inhabited

inductive XExit where
  | normal
  | exit (id : Nat)
  | ret

def XExit.to : XExit → Exit
  | .normal => .normal
  | .exit id => .exit id
  | .ret => .ret

inductive XRes where
  | tmp (t : Nat)
  | cell (t : Nat) (n : Option Nat)

inductive XFunc where
  | code (body : XCode) (res : List XRes)
  | prim (g : List Value → AH → Option (Value × AH))
  deriving Inhabited

abbrev XCall := FuncId → List Value → AH → Option (Value × AH)

def xwanted (fr : Fr) : Option (Nat × Bool) → Option Bool
  | none => some true
  | some (d, want) => match fr.get d with
    | some (.bool b) => some (b == want)
    | some (.tuple xs) => bif Nat.beq xs.size 0 then some false else none
    | _ => none

/-- what an operation gives, and the heap behind it -/
def xval (P : Program) (call : XCall) (x : XOper) (fr : Fr) (H : AH) : Option (Value × AH) :=
  match xwanted fr x.gd with
  | none => none
  | some false => some (undef, H)
  | some true => match x.op with
    | .call f args => match evs fr args with
      | some vs => call f vs H
      | none => none
    | .callv y args => match ev fr y, evs fr args with
      | some (.func (.func f) first caps), some vs => call f (first.toList ++ vs ++ caps.toList) H
      | _, _ => none
    | op => xop P fr H op

def xops (P : Program) (call : XCall) : List XOper → Fr → AH → Option (Fr × AH)
  | [], fr, H => some (fr, H)
  | x :: xs, fr, H => match xval P call x fr H with
    | some (v, H') => xops P call xs (fr.put? x.dst v) H'
    | none => none

/-- values that are seen to be equal -/
def veq1 : Value → Value → Bool
  | .bool a, .bool b => a == b
  | .int k a, .int j b => decide (k = j) && decide (a = b)
  | .string a, .string b => decide (a.data.toList = b.data.toList)
  | .pointer none, .pointer none => true
  | .pointer (some a), .pointer (some b) => decide (a = b)
  | .slice none l c, .slice none l' c' => Nat.beq l l' && Nat.beq c c'
  | .slice (some a) l c, .slice (some b) l' c' => decide (a = b) && Nat.beq l l' && Nat.beq c c'
  | .nilFunc, .nilFunc => true
  | .nilIface, .nilIface => true
  | _, _ => false

theorem veq1_eq {a b : Value} (h : veq1 a b = true) : a = b := by
  unfold veq1 at h
  split at h
  · simp at h; rw [h]
  · simp at h; rw [h.1, h.2]
  · rename_i a b
    simp only [decide_eq_true_eq] at h
    have : a = b := by
      cases a with | mk a => cases b with | mk b => congr 1; exact Array.ext' h
    rw [this]
  · rfl
  · simp at h; rw [h]
  · simp only [Bool.and_eq_true] at h; rw [Nat.eq_of_beq_eq_true h.1, Nat.eq_of_beq_eq_true h.2]
  · simp only [Bool.and_eq_true, decide_eq_true_eq] at h; rw [h.1.1, Nat.eq_of_beq_eq_true h.1.2, Nat.eq_of_beq_eq_true h.2]
  · rfl
  · rfl
  · simp at h

def veqL : List Value → List Value → Bool
  | [], [] => true
  | a :: as, b :: bs => veq1 a b && veqL as bs
  | _, _ => false
theorem veqL_eq : ∀ {a b : List Value}, veqL a b = true → a = b
  | [], [], _ => rfl
  | [], _ :: _, h => by simp [veqL] at h
  | _ :: _, [], h => by simp [veqL] at h
  | a :: as, b :: bs, h => by
    simp only [veqL, Bool.and_eq_true] at h
    rw [veq1_eq h.1, veqL_eq h.2]
def veq (a b : Value) : Bool :=
  match a, b with
  | .agg x, .agg y => veqL x.toList y.toList
  | a, b => veq1 a b
theorem veq_eq {a b : Value} (h : veq a b = true) : a = b := by
  unfold veq at h
  split at h
  · rw [Array.ext' (veqL_eq h)]
  · exact veq1_eq h

structure DOut where
  fr : Fr
  H : AH
  hs : List (Nat × AH)
  cs : List (XDop × Fr × Value)

def drun (P : Program) (call : XCall) : Nat → List XDop → Fr → AH → List (Nat × AH) → List (XDop × Fr × Value) → Option DOut
  | _, [], fr, H, hs, cs => some ⟨fr, H, hs, cs⟩
  | t, d :: ds, fr, H, hs, cs => match xval P call d.x (fr.keep d.rd) H with
    | some (v, H') => drun P call (t + 1) ds (fr.put? d.x.dst v) H' (bif Nat.ble 2 d.kind then (t + 1, H') :: hs else hs) (match d.stab with | [] => cs | _ => (d, fr.keep d.rd, v) :: cs)
    | none => none

def heapAt : List (Nat × AH) → Nat → Option AH
  | [], _ => none
  | p :: r, t => bif Nat.beq p.1 t then some p.2 else heapAt r t

def stabOk (P : Program) (call : XCall) (hs : List (Nat × AH)) (c : XDop × Fr × Value) : Bool :=
  c.1.stab.all fun t => match heapAt hs t with
    | some H => match xval P call c.1.x c.2.1 H with
      | some r => veq c.2.2 r.1
      | none => false
    | none => false

def xdops (P : Program) (call : XCall) (ds : List XDop) (fr : Fr) (H : AH) : Option (Fr × AH) :=
  match drun P call 0 ds fr H [(0, H)] [] with
  | some r => bif r.cs.all (stabOk P call r.hs) then some (r.fr, r.H) else none
  | none => none

def xres (fr : Fr) (H : AH) : XRes → Option Value
  | .tmp t => fr.get t
  | .cell t n => match fr.get t with
    | some (.pointer (some ⟨B, o, none⟩)) => match H.get B with
      | some blk => partV blk.cells o n
      | none => none
    | _ => none

def xress (fr : Fr) (H : AH) : List XRes → Option (List Value)
  | [] => some []
  | x :: xs => match xres fr H x, xress fr H xs with
    | some v, some vs => some (v :: vs)
    | _, _ => none

def xresult (fr : Fr) (H : AH) (rs : List XRes) : Option Value :=
  match xress fr H rs with
  | some [v] => some v
  | some vs => some (.tuple vs.toArray)
  | none => none

def ofArgs : Nat → List Value → Fr
  | _, [] => []
  | i, v :: vs => (i, v) :: ofArgs (i + 1) vs

abbrev XTab := FuncId → Option XFunc
abbrev XSelf := XCode → Fr → AH → Option (XExit × Fr × AH)

def xcallOf (T : XTab) (self : XSelf) : XCall := fun f args H =>
  match T f with
  | none => none
  | some (.prim g) => g args H
  | some (.code body res) => match self body (ofArgs 0 args) H with
    | some (.ret, fr, H') => match xresult fr H' res with
      | some v => some (v, H')
      | none => none
    | some (.normal, fr, H') => match xresult fr H' res with
      | some v => some (v, H')
      | none => none
    | _ => none

noncomputable def agree (r q : Option (Fr × AH)) : Bool := @decide (q = r) (Classical.propDecidable _)
theorem agree_pos {r q : Option (Fr × AH)} (h : q = r) : agree r q = true := @decide_eq_true _ (Classical.propDecidable _) h
theorem agree_neg {r q : Option (Fr × AH)} (h : ¬ q = r) : agree r q = false := @decide_eq_false _ (Classical.propDecidable _) h
noncomputable def xstep (P : Program) (T : XTab) (self : XSelf) : XSelf := fun c fr H =>
  match c with
  | .skip => some (.normal, fr, H)
  | .ops l keep => match xops P (xcallOf T self) l fr H with
    | some (fr', H') => some (.normal, fr'.keep keep, H')
    | none => none
  | .dops l keep => match xdops P (xcallOf T self) l fr H with
    | some (fr', H') => some (.normal, fr'.keep keep, H')
    | none => none
  | .dalt l1 l2 keep => match xdops P (xcallOf T self) l1 fr H with
    | some (fr', H') => bif agree (some (fr', H')) (xdops P (xcallOf T self) l2 fr H) then some (.normal, fr'.keep keep, H') else none
    | none => none
  | .seq a b => match self a fr H with
    | some (.normal, fr', H') => self b fr' H'
    | r => r
  | .cond c a b => match ev fr c with
    | some (.bool true) => self a fr H
    | some (.bool false) => self b fr H
    | _ => none
  | .block id c => match self c fr H with
    | some (.exit j, fr', H') => bif Nat.beq j id then some (.normal, fr', H') else some (.exit j, fr', H')
    | r => r
  | .loop c => match self c fr H with
    | some (.normal, fr', H') => self (.loop c) fr' H'
    | r => r
  | .exit id => some (.exit id, fr, H)
  | .ret => some (.ret, fr, H)

noncomputable def xcode (P : Program) (T : XTab) (k : Nat) : XSelf := Nat.rec (fun _ _ _ => none) (fun _ self => xstep P T self) k

theorem xcode_zero (P : Program) (T : XTab) : xcode P T 0 = fun _ _ _ => none := rfl
theorem xcode_succ (P : Program) (T : XTab) (k : Nat) : xcode P T (k + 1) = xstep P T (xcode P T k) := rfl

noncomputable def xcall (P : Program) (T : XTab) (k : Nat) : XCall := xcallOf T (xcode P T k)

/-! ### out of the program's code -/
def dstOk (N : Nat) : Option Nat → Bool
  | some d => Nat.blt d N
  | none => true

/-- what has no run -/
def failOp : XOp := .ext (.const (.bool false)) 0

def cOpF (P : Program) (o : Oper) : XOp :=
  match cOp P o with
  | none => failOp
  | some x => x

def cOperX (N : Nat) (ops : Array Oper) (o : Oper) (x : XOp) : Option XOper :=
  bif dstOk N o.dst then
    match o.guard with
    | none => some ⟨o.dst, x, none⟩
    | some (j, want) => match ops[j]? with
      | some oj => match oj.dst with
        | some d => some ⟨o.dst, x, some (d, want)⟩
        | none => none
      | none => none
  else none

def cOper (P : Program) (N : Nat) (ops : Array Oper) (o : Oper) : Option XOper := cOperX N ops o (cOpF P o)

def cOpers (P : Program) (N : Nat) (ops : Array Oper) : List Oper → Option (List XOper)
  | [] => some []
  | o :: os => match cOper P N ops o, cOpers P N ops os with
    | some x, some xs => some (x :: xs)
    | _, _ => none

variable {P : Program} {base : Nat} {W0 : World} {m : Mp} {H : AH} {w : World} {fr : Fr} {a : Act}

abbrev HR (P : Program) (base : Nat) (W0 : World) (m : Mp) (H : AH) (w : World) : Prop := HRel P.globals.size base W0 m H w

/-- what a call of ours says of the machine's -/
def CallOk (P : Program) (f : FuncId) (args : List Value) (H : AH) (v : Value) (H' : AH) : Prop :=
  ∀ (base : Nat) (W0 : World) (m : Mp) (w : World) (args' : List Value), HR P base W0 m H w → LRel m args args' →
    Calls P f args'.toArray w fun e w' => ∃ m' v', e = .returned v' ∧ HR P base W0 m' H' w' ∧ Fut m H w m' H' w' ∧ VRel m' v v'

def CallsOk (P : Program) (call : XCall) : Prop := ∀ f args H v H', call f args H = some (v, H') → CallOk P f args H v H' ∧ ∃ fn c, P.funcs[f]? = some fn ∧ fn.body = some c ∧ (fn.name == "runtime.NumGoroutine") = false

theorem run_callFunc {f : FuncId} {fn : Func} {c : Code} (hf : P.funcs[f]? = some fn) (hb : fn.body = some c) (hn : (fn.name == "runtime.NumGoroutine") = false) (args : Array Value) (w : World) :
    (callFunc f args).run P w = .ok (.enter f args) w := by
  have hn' : ¬ fn.name = "runtime.NumGoroutine" := by simpa using hn
  simp [callFunc, hf, hn', hb]

def notCall : XOp → Bool
  | .call .. | .callv .. => false
  | _ => true

theorem cRaw_notCall {o : Oper} {x : XOp} (hn : ∀ c, o.op ≠ .call c) (h : cRaw P o = some x) : notCall x = true := by
  cases hop : o.op
  case call c => exact absurd hop (hn c)
  all_goals
    simp only [cRaw, hop, Bool.cond_eq_ite] at h
    repeat' split at h
    all_goals first
      | (cases h; rfl)
      | cases h

theorem cRaw_builtin {o : Oper} {x : XOp} {c : Call} (hop : o.op = .call c) {b : Builtin} (hc : c.callee = .builtin b) (h : cRaw P o = some x) : notCall x = true := by
  simp only [cRaw, hop, hc, Bool.cond_eq_ite] at h
  repeat' split at h
  all_goals first
    | (cases h; rfl)
    | cases h

theorem cRaw_call {o : Oper} {f : FuncId} {args : List Operand} (h : cRaw P o = some (.call f args)) : ∃ c, o.op = .call c ∧ c.callee = .value (.func f) ∧ c.args.toList = args := by
  by_cases hn : ∃ c, o.op = .call c
  · obtain ⟨c, hop⟩ := hn
    cases hc : c.callee with
    | value y =>
      cases y <;> simp only [cRaw, hop, hc, Option.some.injEq] at h <;> cases h
      exact ⟨c, hop, hc, rfl⟩
    | invoke r m => simp [cRaw, hop, hc] at h
    | builtin b => have := cRaw_builtin hop hc h; simp [notCall] at this
  · have := cRaw_notCall (fun c hc => hn ⟨c, hc⟩) h; simp [notCall] at this

theorem cRaw_callv {o : Oper} {y : Operand} {args : List Operand} (h : cRaw P o = some (.callv y args)) : ∃ c, o.op = .call c ∧ c.callee = .value y ∧ c.args.toList = args := by
  by_cases hn : ∃ c, o.op = .call c
  · obtain ⟨c, hop⟩ := hn
    cases hc : c.callee with
    | value y =>
      cases y <;> simp only [cRaw, hop, hc, Option.some.injEq] at h <;> cases h <;> exact ⟨c, hop, hc, rfl⟩
    | invoke r m => simp [cRaw, hop, hc] at h
    | builtin b => have := cRaw_builtin hop hc h; simp [notCall] at this
  · have := cRaw_notCall (fun c hc => hn ⟨c, hc⟩) h; simp [notCall] at this

theorem xwanted_sound {ops : Array Oper} {o : Oper} {x : XOper} {N : Nat} (hc : cOper P N ops o = some x) (hf : FrRel m fr a.tmps) {b : Bool} (hw : xwanted fr x.gd = some b) :
    Region.wanted o (yielded ops a.tmps) = b ∧ x.dst = o.dst ∧ cOpF P o = x.op ∧ ∀ d, o.dst = some d → d < N := by
  unfold cOper cOperX at hc
  generalize hy : cOpF P o = y at hc
  · cases hd : dstOk N o.dst
    · simp only [hd, cond_false] at hc; cases hc
    · simp only [hd, cond_true] at hc
      have hdN : ∀ d, o.dst = some d → d < N := by
        intro d h
        rw [h] at hd
        exact natlt hd
      split at hc
      · rename_i hg
        cases hc
        simp only [xwanted, Option.some.injEq] at hw; subst hw
        exact ⟨by simp [Region.wanted, hg], rfl, rfl, hdN⟩
      · rename_i j want hg
        split at hc
        · rename_i oj hoj
          split at hc
          · rename_i d hdj
            cases hc
            refine ⟨?_, rfl, rfl, hdN⟩
            simp only [xwanted] at hw
            unfold Region.wanted
            simp only [hg]
            split at hw
            · rename_i bb hb
              simp only [Option.some.injEq] at hw; subst hw
              obtain ⟨v', h1, h2⟩ := hf d _ hb
              have := flatD_eq 4 _ _ rfl h2
              subst this
              have hyl : yielded ops a.tmps j = some bb := by
                simp only [yielded, hoj, Option.bind_some, hdj, h1]
              rw [hyl]
              cases bb <;> cases want <;> rfl
            · rename_i xs hb
              cases hz : Nat.beq xs.size 0
              · simp [hz] at hw
              · simp only [hz, cond_true, Option.some.injEq] at hw; subst hw
                obtain ⟨v', h1, h2⟩ := hf d _ hb
                have hyl : yielded ops a.tmps j = none := by
                  simp only [yielded, hoj, Option.bind_some, hdj, h1]
                  cases h2; rfl
                rw [hyl]; rfl
            · simp at hw
          · simp at hc
        · simp at hc

/-- one operation, in whatever state of the frame -/
theorem xval_wpOp {call : XCall} (hcall : CallsOk P call) {ops : Array Oper} {o : Oper} {i N : Nat} {x : XOper} (ho : ops[i]? = some o) (hc : cOper P N ops o = some x) {v : Value} {H' : AH}
    (hx : xval P call x fr H = some (v, H')) (hr : HR P base W0 m H w) (hf : FrRel m fr a.tmps) (Q : Exit → Act → World → Prop) :
    wpOp P ops Q i (fun a' w' => ∃ m' v', a' = a.put o.dst v' ∧ HR P base W0 m' H' w' ∧ Fut m H w m' H' w' ∧ VRel m' v v') a w := by
  unfold xval at hx
  unfold wpOp
  simp only [ho]
  cases hw : xwanted fr x.gd with
  | none => simp [hw] at hx
  | some b =>
    obtain ⟨h1, h2, h3, h4⟩ := xwanted_sound hc hf hw
    rw [h1]
    cases b
    · simp only [hw, Option.some.injEq, Prod.mk.injEq] at hx
      obtain ⟨rfl, rfl⟩ := hx
      simp only [Bool.false_eq_true, if_false]
      exact ⟨m, undef, rfl, hr, .refl m H w, vrel_undef m⟩
    · simp only [hw] at hx
      simp only [if_true]
      left
      have h3 : cOp P o = some x.op := by
        unfold cOpF at h3
        cases hco : cOp P o with
        | some y => simp only [hco] at h3; rw [h3]
        | none =>
          simp only [hco] at h3
          rw [← h3] at hx
          simp [failOp, xop, ev] at hx
      have hall : o.op.operands.all (okOpnd P.globals.size) = true := by
        unfold cOp at h3
        cases hall : o.op.operands.all (okOpnd P.globals.size)
        · simp [hall] at h3
        · rfl
      have hraw : cRaw P o = some x.op := by
        unfold cOp at h3
        rw [hall] at h3
        exact h3
      -- the calls
      have hcallc : ∀ (f : FuncId) (vs : List Value) (args' : List Value), call f vs H = some (v, H') → LRel m vs args' → (execOp a.eval o).run P w = .ok (.enter f args'.toArray) w →
          o.wp P a w (fun a' w' => ∃ m' v', a' = a.put o.dst v' ∧ HR P base W0 m' H' w' ∧ Fut m H w m' H' w' ∧ VRel m' v v') Q := by
        intro f vs args' hcl hl hrun
        unfold Oper.wp
        rw [hrun, Oper.upon_enter]
        refine ((hcall f vs H v H' hcl).1 base W0 m w args' hr hl).mono ?_
        rintro e w' ⟨m', v', rfl, g1, g2, g3⟩
        exact ⟨m', v', rfl, g1, g2, g3⟩
      have hother : ∀ {op : XOp}, x.op = op → xop P fr H op = some (v, H') → o.wp P a w (fun a' w' => ∃ m' v', a' = a.put o.dst v' ∧ HR P base W0 m' H' w' ∧ Fut m H w m' H' w' ∧ VRel m' v v') Q := by
        intro op hop hxo
        subst hop
        obtain ⟨m', v', w', hrun, g1, g2, g3⟩ := xop_sound h3 hxo hr hf
        unfold Oper.wp
        rcases hrun with hrun | ⟨hrun, rfl⟩
        · rw [hrun, Oper.upon_value]; exact ⟨m', v', rfl, g1, g2, g3⟩
        · rw [hrun, Oper.upon_skip]; exact ⟨m', undef, rfl, g1, g2, g3⟩
      cases hxop : x.op with
      | call f args =>
        simp only [hxop] at hx
        split at hx
        · rename_i vs hvs
          rw [hxop] at hraw
          obtain ⟨c, hop, hcal, hargs⟩ := cRaw_call hraw
          obtain ⟨_, fn, cc, k1, k2, k3⟩ := hcall f vs H v H' hx
          have hl := LRel.evs hr hf (fun y hy => by
            rw [hop] at hall
            exact Array.all_eq_true'.1 hall y (by simp only [Op.operands, Call.operands]; exact Array.mem_append_right _ (by rw [← hargs] at hy; simpa using hy))) hvs
          refine hcallc f vs _ hx hl ?_
          have hargs' : (args.map a.eval).toArray = c.args.map a.eval := by rw [← hargs, ← Array.toList_map, Array.toArray_toList]
          rw [hargs']
          simp [execOp, hop, resolve, hcal, Act.eval, Deferred.ofValue, invoke, run_callFunc k1 k2 k3]
        · simp at hx
      | callv y args =>
        simp only [hxop] at hx
        split at hx
        · rename_i f first caps vs hy hvs
          rw [hxop] at hraw
          obtain ⟨c, hop, hcal, hargs⟩ := cRaw_callv hraw
          obtain ⟨_, fn, cc, k1, k2, k3⟩ := hcall _ _ H v H' hx
          have hok : ∀ z, z = y ∨ z ∈ args → okOpnd P.globals.size z = true := by
            intro z hz
            rw [hop] at hall
            refine Array.all_eq_true'.1 hall z ?_
            simp only [Op.operands, Call.operands, hcal]
            rcases hz with rfl | hz
            · exact Array.mem_append_left _ (by simp)
            · exact Array.mem_append_right _ (by rw [← hargs] at hz; simpa using hz)
          have hl := LRel.evs hr hf (fun z hz => hok z (.inr hz)) hvs
          have hv := ev_sound hr hf (hok y (.inl rfl)) hy
          generalize hq : a.eval y = q at hv
          cases hv with
          | func _ _ _ xs' ys' a1 b1 a2 b2 =>
            have l1 := LRel.of_agg a1 b1
            have l2 := LRel.of_agg a2 b2
            refine hcallc f _ (xs'.toList ++ args.map a.eval ++ ys'.toList) hx ((l1.append hl).append l2) ?_
            have hargs' : c.args.map a.eval = (args.map a.eval).toArray := by rw [← hargs, ← Array.toList_map, Array.toArray_toList]
            have : xs' ++ (args.map a.eval).toArray ++ ys' = (xs'.toList ++ args.map a.eval ++ ys'.toList).toArray := by
              apply Array.ext'
              simp
            simp only [execOp, hop, resolve, hcal, Sem.run_bind, hq, Deferred.ofValue, Sem.run_pure, Result.andThen_ok, invoke, hargs', this, run_callFunc k1 k2 k3]
        · simp at hx
      | _ => exact hother hxop (by simp only [hxop] at hx; exact hx)

end Go.Det

set_option linter.unusedSimpArgs false
set_option linter.unusedVariables false
namespace Go.Det

variable {P : Program} {base : Nat} {W0 : World} {m : Mp} {H : AH} {w : World} {fr : Fr} {a : Act} {call : XCall}

/-- our state beside the machine's -/
structure St (P : Program) (base : Nat) (W0 : World) (N : Nat) (m : Mp) (fr : Fr) (H : AH) (a : Act) (w : World) : Prop where
  hr : HR P base W0 m H w
  fr : FrRel m fr a.tmps
  df : a.defers = []
  sz : N ≤ a.tmps.size

theorem cOper_dst {N : Nat} {ops : Array Oper} {o : Oper} {x : XOper} (hc : cOper P N ops o = some x) : x.dst = o.dst ∧ ∀ d, o.dst = some d → d < N := by
  unfold cOper cOperX at hc
  · cases hd : dstOk N o.dst
    · simp only [hd, cond_false] at hc; cases hc
    · simp only [hd, cond_true] at hc
      have hdN : ∀ d, o.dst = some d → d < N := by
        intro d h
        rw [h] at hd
        exact natlt hd
      split at hc
      · cases hc; exact ⟨rfl, hdN⟩
      · split at hc
        · split at hc
          · cases hc; exact ⟨rfl, hdN⟩
          · simp at hc
        · simp at hc

theorem FrRel.put? {tmps : Array Value} (h : FrRel m fr tmps) {d : Option Nat} (hd : ∀ k, d = some k → k < tmps.size) {v v' : Value} (hv : VRel m v v') (a : Act) (ha : a.tmps = tmps) :
    FrRel m (fr.put? d v) (a.put d v').tmps := by
  subst ha
  cases d with
  | none => exact h
  | some k => exact h.put (hd k rfl) hv

theorem put_size (a : Act) (d : Option Nat) (v : Value) : (a.put d v).tmps.size = a.tmps.size := by cases d <;> simp [Act.put]
theorem put_defers (a : Act) (d : Option Nat) (v : Value) : (a.put d v).defers = a.defers := by cases d <;> rfl

theorem St.step {N : Nat} (h : St P base W0 N m fr H a w) {m' : Mp} {H' : AH} {w' : World} {d : Option Nat} (hd : ∀ k, d = some k → k < N) {v v' : Value} (hr : HR P base W0 m' H' w') (hF : Fut m H w m' H' w') (hv : VRel m' v v') :
    St P base W0 N m' (fr.put? d v) H' (a.put d v') w' :=
  { hr := hr, fr := (h.fr.mono hF.ext).put? (fun k hk => Nat.lt_of_lt_of_le (hd k hk) h.sz) hv a rfl, df := by rw [put_defers]; exact h.df, sz := by rw [put_size]; exact h.sz }

theorem xops_wpOps (hcall : CallsOk P call) {N : Nat} {ops : Array Oper} {Q : Exit → Act → World → Prop} {fr' : Fr} {H' : AH} :
    ∀ (os : List Oper) (xs : List XOper) (l : List Nat) (fr : Fr) (H : AH) (m : Mp) (a : Act) (w : World), cOpers P N ops os = some xs → All2 (fun i o => ops[i]? = some o) l os → xops P call xs fr H = some (fr', H') →
    St P base W0 N m fr H a w → (∀ m' a' w', St P base W0 N m' fr' H' a' w' → Fut m H w m' H' w' → Q .normal a' w') → wpOps P ops Q l a w
  | [], xs, _, fr, H, m, a, w, hc, .nil, hx, hst, hq => by
    simp [cOpers] at hc; subst hc
    simp [xops] at hx
    obtain ⟨rfl, rfl⟩ := hx
    exact hq m a w hst (.refl m H w)
  | o :: os, xs, i :: l, fr, H, m, a, w, hc, .cons hio hl, hx, hst, hq => by
    simp only [cOpers] at hc
    split at hc
    · rename_i x xs' hc1 hc2
      cases hc
      simp only [xops] at hx
      split at hx
      · rename_i v H1 hv
        rw [wpOps_cons]
        refine wpOp_mono ?_ (xval_wpOp hcall hio hc1 hv hst.hr hst.fr Q)
        rintro a' w' ⟨m', v', rfl, g1, g2, g3⟩
        obtain ⟨d1, d2⟩ := cOper_dst hc1
        have hst' := hst.step d2 g1 g2 g3
        rw [← d1] at hst'
        rw [← d1]
        exact xops_wpOps hcall os xs' l _ _ m' _ w' hc2 hl hx hst' (fun m2 a2 w2 h2 hF => hq m2 a2 w2 h2 (g2.trans hF))
      · simp at hx
    · simp at hc

theorem all2_range (ops : Array Oper) : All2 (fun i o => ops[i]? = some o) (List.range ops.size) ops.toList := by
  have key : ∀ (os : List Oper) (k : Nat), (∀ j o, os[j]? = some o → ops[k + j]? = some o) → All2 (fun i o => ops[i]? = some o) (List.range' k os.length) os := by
    intro os
    induction os with
    | nil => intro k _; exact .nil
    | cons o os ih =>
      intro k h
      rw [List.length_cons, List.range'_succ]
      exact .cons (by simpa using h 0 o rfl) (ih (k + 1) fun j o' hj => by have := h (j + 1) o' (by simpa using hj); rwa [show k + 1 + j = k + (j + 1) by omega])
  have := key ops.toList 0 (fun j o hj => by simpa using hj)
  rw [List.range_eq_range']
  simpa using this

end Go.Det

set_option linter.unusedSimpArgs false
set_option linter.unusedVariables false
namespace Go.Det

/-! ### regions whose order is drawn -/
def kindOf : XOp → Nat
  | .mov _ | .pick .. | .build .. | .nilck _ | .bin .. | .isnil .. | .conv .. | .fld .. | .fldA .. | .idxA .. | .idxAA .. | .idxV .. | .len _ | .lens _ | .mkf .. | .ext .. | .mkI .. | .flat .. => 0
  | .ld .. | .b2s _ | .slc .. | .slcA .. | .cap _ | .mlk .. => 1
  | _ => 2

/-- an operation that makes a block of its own, and needs no order beside others: kind 3 -/
def kindX (x : XOper) : Nat :=
  match x.gd with
  | some _ => kindOf x.op
  | none => match x.op with
    | .new .. | .box .. | .mks .. | .bslice .. => 3
    | op => kindOf op

def tmpsOf : List Operand → List Nat
  | [] => []
  | .tmp t :: r => t :: tmpsOf r
  | _ :: r => tmpsOf r

def rdOf (ops : Array Oper) (o : Oper) : List Nat :=
  tmpsOf o.op.operands.toList ++ match o.guard with
    | some (j, _) => match ops[j]? with
      | some oj => oj.dst.toList
      | none => []
    | none => []

def maskOf (ms : List Nat) (es : List Edge) : Nat := es.foldl (fun s e => bif Region.binds .any e then s ||| 2 ^ e.on ||| ms.getD e.on 0 else s) 0

def masks : List Oper → List Nat → List Nat
  | [], acc => acc
  | o :: os, acc => masks os (acc ++ [maskOf acc o.after.toList])

def depOk (ops : Array Oper) (ms : List Nat) : Bool :=
  (List.range ops.size).all fun i => match ops[i]? with
    | some o => Nat.beq (ms.getD i 0) (maskOf ms o.after.toList) && o.after.toList.all (fun e => !(Region.binds .any e) || Nat.blt e.on i)
    | none => false

def bitOf (ms : List Nat) (i j : Nat) : Bool := bif Nat.blt j i then (ms.getD i 0).testBit j else (ms.getD j 0).testBit i

def stages (ks : List Nat) : List Nat := 0 :: ((List.range ks.length).filter fun j => Nat.ble 2 (ks.getD j 0)).map (· + 1)

/-- no effect lies from t on before i -/
def ownSt (ks : List Nat) (i t : Nat) : Bool := Nat.ble t i && (List.range i).all fun k => Nat.blt k t || !(Nat.ble 2 (ks.getD k 0))

/-- a block that i waits for, and that waits for no effect for which i does not wait, is there when i comes -/
def madeOk (ms ks : List Nat) (i t j : Nat) : Bool :=
  !(Nat.beq (ks.getD j 0) 3 && (ms.getD i 0).testBit j && Nat.ble t j && (List.range j).all fun e => !(Nat.ble 2 (ks.getD e 0)) || (ms.getD i 0).testBit e)

def stabList (ms ks : List Nat) (i : Nat) : List Nat :=
  (stages ks).filter fun t => !(ownSt ks i t) && (List.range ks.length).all fun j =>
    ((!(Nat.beq (ks.getD j 0) 2) || (!((ms.getD i 0).testBit j) || Nat.blt j t)) && (!(Nat.ble 2 (ks.getD j 0)) || (!((ms.getD j 0).testBit i) || !(Nat.blt j t)))) && madeOk ms ks i t j

def mkD (ms ks : List Nat) : Nat → List XOper → List (List Nat) → List XDop
  | i, x :: xs, r :: rs => ⟨x, r, kindX x, bif Nat.beq (kindX x) 1 then stabList ms ks i else []⟩ :: mkD ms ks (i + 1) xs rs
  | _, _, _ => []

/-- whoever reads a block that is made there comes behind all effects ahead of it -/
def lateOk (ms : List Nat) (ds : List XDop) (i j : Nat) (q : XDop) (rd : List Nat) : Bool :=
  match q.x.dst with
  | none => true
  | some s => !(Nat.beq q.kind 3 && Fr.has rd s && Nat.blt j i) || (ds.zipIdx.all fun r => !(Nat.ble 2 r.1.kind && Nat.blt r.2 j) || (ms.getD i 0).testBit r.2)

def pairOk (ms : List Nat) (ds : List XDop) : Bool :=
  ds.zipIdx.all fun p => ds.zipIdx.all fun q => Nat.beq p.2 q.2 ||
    ((!(Nat.beq p.1.kind 2 && Nat.beq q.1.kind 2) || bitOf ms p.2 q.2) && (!(Nat.beq p.1.kind 2 && Nat.beq q.1.kind 3 && Nat.blt q.2 p.2) || bitOf ms p.2 q.2) && lateOk ms ds p.2 q.2 q.1 p.1.rd &&
     match q.1.x.dst with
     | none => true
     | some s => (!(Fr.has p.1.rd s) || bitOf ms p.2 q.2) && (!(decide (p.1.x.dst = some s)) || bitOf ms p.2 q.2))

def cDops (P : Program) (N : Nat) (ops : Array Oper) : Option (List XDop) :=
  match cOpers P N ops ops.toList with
  | none => none
  | some xs =>
    bif depOk ops (masks ops.toList []) && pairOk (masks ops.toList []) (mkD (masks ops.toList []) (xs.map fun x => kindX x) 0 xs (ops.toList.map (rdOf ops))) then
      some (mkD (masks ops.toList []) (xs.map fun x => kindX x) 0 xs (ops.toList.map (rdOf ops)))
    else none

variable {P : Program} {base : Nat} {W0 : World} {m : Mp} {H : AH} {w : World} {fr : Fr} {a : Act} {call : XCall}

/-! #### what a run of ours leaves -/
theorem xval_pure {x : XOper} {v : Value} {H1 : AH} (hk : kindOf x.op = 0) (h : xval P call x fr H = some (v, H1)) (H2 : AH) : H1 = H ∧ xval P call x fr H2 = some (v, H2) := by
  unfold xval at h ⊢
  split at h
  · simp at h
  · simp only [Option.some.injEq, Prod.mk.injEq] at h
    obtain ⟨rfl, rfl⟩ := h
    exact ⟨rfl, rfl⟩
  · have gen : ∀ (o : Option Value), (match o with | some v => some (v, H) | none => none) = some (v, H1) → H1 = H ∧ o = some v := by
      intro o ho
      cases o <;> simp at ho
      exact ⟨ho.2.symm, by simp [ho.1]⟩
    cases hop : x.op <;> simp only [hop, kindOf] at hk <;> (try (exact absurd hk (by decide)))
    all_goals simp only [hop, xop, Bool.cond_eq_ite] at h ⊢
    all_goals (repeat' split at h)
    all_goals first
      | (simp at h; done)
      | skip
    all_goals (simp only [Option.some.injEq, Prod.mk.injEq] at h; obtain ⟨rfl, rfl⟩ := h)
    all_goals (refine ⟨rfl, ?_⟩)
    all_goals (first | rfl | (simp_all; done))

theorem xmlk_H {H H1 : AH} {z : Value} {c : Bool} {x k v : Value} (h : xmlk H z c x k = some (v, H1)) : H1 = H := by
  unfold xmlk at h
  split at h
  · simp only [Option.some.injEq, Prod.mk.injEq] at h; exact h.2.symm
  · split at h
    · split at h
      · simp only [Option.some.injEq, Prod.mk.injEq] at h; exact h.2.symm
      · simp only [Option.some.injEq, Prod.mk.injEq] at h; exact h.2.symm
      · cases h
    · cases h
  · cases h
theorem xval_read {x : XOper} {v : Value} {H1 : AH} (hk : kindOf x.op = 1) (h : xval P call x fr H = some (v, H1)) : H1 = H := by
  unfold xval at h
  split at h
  · simp at h
  · simp only [Option.some.injEq, Prod.mk.injEq] at h
    exact h.2.symm
  · cases hop : x.op <;> simp only [hop, kindOf] at hk <;> (try (exact absurd hk (by decide)))
    all_goals simp only [hop, xop, Bool.cond_eq_ite] at h
    all_goals (repeat' split at h)
    all_goals first
      | (simp at h; done)
      | (simp only [Option.some.injEq, Prod.mk.injEq] at h; exact h.2.symm)
      | exact xmlk_H h

theorem kind_le (x : XOp) : kindOf x = 0 ∨ kindOf x = 1 ∨ kindOf x = 2 := by
  cases x <;> simp [kindOf]
theorem kindX_of {x : XOper} {k : Nat} (h : kindX x = k) (hk : k < 2) : kindOf x.op = k := by
  unfold kindX at h
  split at h
  · exact h
  · split at h
    · omega
    · omega
    · omega
    · omega
    · exact h
theorem kindX_le (x : XOper) : kindX x = 0 ∨ kindX x = 1 ∨ kindX x = 2 ∨ kindX x = 3 := by
  unfold kindX
  split
  · rcases kind_le x.op with h | h | h <;> simp [h]
  · split
    · simp
    · simp
    · simp
    · simp
    · rename_i op _ _ _ _
      rcases kind_le x.op with h | h | h <;> simp [h]

/-- the run of ours, step by step -/
theorem drun_trace : ∀ (ds : List XDop) (t : Nat) (fr : Fr) (H : AH) (hs : List (Nat × AH)) (cs : List (XDop × Fr × Value)) (r : DOut), drun P call t ds fr H hs cs = some r →
    ∃ (f : Nat → Fr) (h : Nat → AH) (v : Nat → Value), f t = fr ∧ h t = H ∧ f (t + ds.length) = r.fr ∧ h (t + ds.length) = r.H ∧
      (∀ k d, ds[k]? = some d → xval P call d.x ((f (t + k)).keep d.rd) (h (t + k)) = some (v (t + k), h (t + k + 1)) ∧ f (t + k + 1) = (f (t + k)).put? d.x.dst (v (t + k)) ∧
        (d.stab ≠ [] → (d, (f (t + k)).keep d.rd, v (t + k)) ∈ r.cs)) ∧
      (∀ p ∈ r.hs, p ∈ hs ∨ ∃ k d, ds[k]? = some d ∧ 2 ≤ d.kind ∧ p = (t + k + 1, h (t + k + 1))) ∧ (∀ c ∈ cs, c ∈ r.cs)
  | [], t, fr, H, hs, cs, r, hr => by
    simp only [drun, Option.some.injEq] at hr; subst hr
    exact ⟨fun _ => fr, fun _ => H, fun _ => undef, rfl, rfl, rfl, rfl, fun k d hd => by simp at hd, fun p hp => .inl hp, fun c hc => hc⟩
  | d :: ds, t, fr, H, hs, cs, r, hr => by
    simp only [drun] at hr
    split at hr
    · rename_i v0 H1 hv
      obtain ⟨f, h, v, h1, h2, h3, h4, h5, h6, h7⟩ := drun_trace ds (t + 1) _ _ _ _ r hr
      refine ⟨fun k => if k = t then fr else f k, fun k => if k = t then H else h k, fun k => if k = t then v0 else v k, by simp, by simp, ?_, ?_, ?_, ?_, ?_⟩
      · have e : t + (d :: ds).length = t + 1 + ds.length := by rw [List.length_cons]; omega
        have n1 : ¬ t + 1 + ds.length = t := by omega
        simp only [e, n1, if_false]; exact h3
      · have e : t + (d :: ds).length = t + 1 + ds.length := by rw [List.length_cons]; omega
        have n1 : ¬ t + 1 + ds.length = t := by omega
        simp only [e, n1, if_false]; exact h4
      · intro k e he
        cases k with
        | zero =>
          simp at he; subst he
          simp only [Nat.add_zero, if_true, show ¬ t + 1 = t by omega, if_false, h1, h2]
          refine ⟨hv, trivial, fun hst => h7 _ ?_⟩
          cases hds : d.stab with
          | nil => exact absurd hds hst
          | cons a b => simp
        | succ k =>
          have := h5 k e (by simpa using he)
          have n1 : ¬ t + (k + 1) = t := by omega
          have n2 : ¬ t + (k + 1) + 1 = t := by omega
          simp only [n1, n2, if_false]
          rw [show t + (k + 1) = t + 1 + k by omega]
          exact this
      · intro p hp
        rcases h6 p hp with hp | ⟨k, e, g1, g2, g3⟩
        · cases hk2 : Nat.ble 2 d.kind
          · simp only [hk2, cond_false] at hp; exact .inl hp
          · simp only [hk2, cond_true, List.mem_cons] at hp
            rcases hp with rfl | hp
            · refine .inr ⟨0, d, rfl, Nat.le_of_ble_eq_true hk2, ?_⟩
              simp [h2, show ¬ t + 1 = t by omega]
            · exact .inl hp
        · refine .inr ⟨k + 1, e, by simpa using g1, g2, ?_⟩
          have n2 : ¬ t + (k + 1) + 1 = t := by omega
          simp only [n2, if_false]
          rw [show t + (k + 1) + 1 = t + 1 + k + 1 by omega]; exact g3
      · intro c hc
        refine h7 c ?_
        cases d.stab with
        | nil => exact hc
        | cons a b => exact List.mem_cons_of_mem _ hc
    · simp at hr

theorem heapAt_mem : ∀ (hs : List (Nat × AH)) (t : Nat) (H : AH), heapAt hs t = some H → (t, H) ∈ hs
  | [], t, H, h => by simp [heapAt] at h
  | p :: r, t, H, h => by
    simp only [heapAt] at h
    cases hb : Nat.beq p.1 t
    · simp only [hb, cond_false] at h
      exact List.mem_cons_of_mem _ (heapAt_mem r t H h)
    · simp only [hb, cond_true, Option.some.injEq] at h
      have := Nat.eq_of_beq_eq_true hb
      subst this; subst h
      simp

theorem mkD_get (ms ks : List Nat) : ∀ (xs : List XOper) (rs : List (List Nat)) (i k : Nat) (d : XDop), (mkD ms ks i xs rs)[k]? = some d →
    ∃ x r, xs[k]? = some x ∧ rs[k]? = some r ∧ d = ⟨x, r, kindX x, bif Nat.beq (kindX x) 1 then stabList ms ks (i + k) else []⟩
  | [], rs, i, k, d, h => by simp [mkD] at h
  | x :: xs, [], i, k, d, h => by simp [mkD] at h
  | x :: xs, r :: rs, i, k, d, h => by
    simp only [mkD] at h
    cases k with
    | zero => simp at h; exact ⟨x, r, rfl, rfl, h.symm⟩
    | succ k =>
      obtain ⟨x', r', h1, h2, h3⟩ := mkD_get ms ks xs rs (i + 1) k d (by simpa using h)
      exact ⟨x', r', by simpa using h1, by simpa using h2, by rw [h3, show i + 1 + k = i + (k + 1) by omega]⟩

theorem mkD_length (ms ks : List Nat) : ∀ (xs : List XOper) (rs : List (List Nat)) (i : Nat), xs.length = rs.length → (mkD ms ks i xs rs).length = xs.length
  | [], rs, i, h => by cases rs <;> simp [mkD]
  | x :: xs, [], i, h => by simp at h
  | x :: xs, r :: rs, i, h => by simp [mkD, mkD_length ms ks xs rs (i + 1) (by simpa using h)]

theorem cOpers_get {N : Nat} {ops : Array Oper} : ∀ (os : List Oper) (xs : List XOper), cOpers P N ops os = some xs → xs.length = os.length ∧ ∀ (k : Nat) (x : XOper), xs[k]? = some x → ∃ o, os[k]? = some o ∧ cOper P N ops o = some x
  | [], xs, h => by simp [cOpers] at h; subst h; simp
  | o :: os, xs, h => by
    simp only [cOpers] at h
    split at h
    · rename_i x xs' h1 h2
      cases h
      obtain ⟨g1, g2⟩ := cOpers_get os xs' h2
      refine ⟨by simp [g1], fun k x hx => ?_⟩
      cases k with
      | zero => simp at hx; subst hx; exact ⟨o, rfl, h1⟩
      | succ k => obtain ⟨o', k1, k2⟩ := g2 k x (by simpa using hx); exact ⟨o', by simpa using k1, k2⟩
    · simp at h

theorem maskOf_spec (ms : List Nat) (j : Nat) : ∀ (es : List Edge) (s : Nat), (es.foldl (fun s e => bif Region.binds .any e then s ||| 2 ^ e.on ||| ms.getD e.on 0 else s) s).testBit j = true →
    s.testBit j = true ∨ ∃ e ∈ es, Region.binds .any e = true ∧ (e.on = j ∨ (ms.getD e.on 0).testBit j = true)
  | [], s, h => .inl h
  | e :: es, s, h => by
    simp only [List.foldl_cons] at h
    rcases maskOf_spec ms j es _ h with h | ⟨e', h1, h2, h3⟩
    · cases hb : Region.binds .any e
      · simp only [hb, cond_false] at h; exact .inl h
      · simp only [hb, cond_true, Nat.testBit_or, Bool.or_eq_true, Nat.testBit_two_pow, decide_eq_true_eq] at h
        rcases h with (h | h) | h
        · exact .inl h
        · exact .inr ⟨e, by simp, hb, .inl h⟩
        · exact .inr ⟨e, by simp, hb, .inr h⟩
    · exact .inr ⟨e', by simp [h1], h2, h3⟩

/-- what a closed set of operations holds -/
theorem mask_closed {ops : Array Oper} {ms : List Nat} (hd : depOk ops ms = true) (S : Nat → Prop) (hS : ∀ k o, S k → ops[k]? = some o → ∀ e ∈ o.after, Region.binds .any e = true → S e.on) :
    ∀ (i : Nat) (o : Oper), ops[i]? = some o → (∀ e ∈ o.after, Region.binds .any e = true → S e.on) → ∀ j, (ms.getD i 0).testBit j = true → S j := by
  intro i
  induction i using Nat.strongRecOn with
  | _ i ih =>
    intro o ho hall j hj
    have hi : i < ops.size := (Array.getElem?_eq_some_iff.1 ho).1
    have h1 := List.all_eq_true.1 hd i (List.mem_range.2 hi)
    simp only [ho, Bool.and_eq_true] at h1
    obtain ⟨h1, h2⟩ := h1
    rw [Nat.eq_of_beq_eq_true h1] at hj
    rcases maskOf_spec ms j _ _ hj with h | ⟨e, g1, g2, g3⟩
    · simp at h
    · have hlt : e.on < i := by
        have := List.all_eq_true.1 h2 e g1
        simp only [g2, Bool.not_true, Bool.false_or] at this
        exact natlt this
      have hSe := hall e (by simpa using g1) g2
      rcases g3 with rfl | g3
      · exact hSe
      · have hei : e.on < ops.size := by omega
        exact ih e.on hlt _ (Array.getElem?_eq_getElem hei) (hS e.on _ hSe (Array.getElem?_eq_getElem hei)) j g3

/-! #### a block that is made early -/
theorem vrel_ptr_at {m : Mp} {B k s l z : Nat} (h : m.f B = some ⟨k, 0, s, l, z, false, false⟩) : VRel m (.pointer (some ⟨B, 0, none⟩)) (.pointer (some ⟨k, 0, none⟩)) := by
  have := VRel.ptr (m := m) B 0 _ h
  simpa using this
theorem vrel_sl_at {m : Mp} {B k l c z : Nat} (h : m.f B = some ⟨k, 0, c * z, c * z, z, false, false⟩) (hl : l ≤ c) : VRel m (.slice (some ⟨B, 0, none⟩) l c) (.slice (some ⟨k, 0, none⟩) l c) := by
  rcases Nat.eq_zero_or_pos c with h0 | h0
  · subst h0
    obtain rfl : l = 0 := by omega
    exact .sl0 B 0 0 _ _ h (fun _ => rfl) (fun hn => absurd (.inl rfl) hn) (fun hne => absurd rfl hne)
  · have := VRel.sl (m := m) B 0 l c c _ h h0 hl (Nat.le_refl _) (fun _ => rfl) (fun hn => absurd (.inl rfl) hn) (by simp)
    simpa using this

theorem run_bslice {o : Oper} {t e : TypeId} {n sz : Nat} {ps : Array (Nat × Operand)} {zs r : List Value} (hop : o.op = .buildSlice t n ps) (hu : P.underlying t = some (.slice e)) (hz : zeroAt P e = some zs)
    (hs : sizeAt P e = some sz) (hbig : n * sz ≤ 16777216) (hzl : zs.length = sz) (hs1 : 1 ≤ sz) (hr : HR P base W0 m H w) (hf : FrRel m fr a.tmps) (ho : ∀ q ∈ ps.toList, okOpnd P.globals.size q.2 = true)
    (hx : xfill fr (ps.toList.map fun p => (p.1 * sz, sz, p.2)) (rep n zs) = some r) (hlen : r.length = n * sz) :
    ∃ r' : Array Value, LRel m r r'.toList ∧ r'.size = n * sz ∧ (execOp a.eval o).run P w = .ok (.value (.slice (some ⟨w.heap.size, 0, none⟩) n n)) { w with heap := w.heap.push (.cells r' e (0, 0)) } := by
  obtain ⟨⟨z, h1, h2⟩, h3⟩ := run_zero' hz w
  have hfa : ∀ qs : List (Nat × Operand), All2 (fun (q : Nat × Operand) (p : Nat × Nat × Operand) => (fun i => some (i * sz, sz)) q.1 = some (p.1, p.2.1) ∧ q.2 = p.2.2) qs (qs.map fun p => (p.1 * sz, sz, p.2)) := by
    intro qs
    induction qs with
    | nil => exact .nil
    | cons q qs ih => exact .cons ⟨rfl, rfl⟩ ih
  have hzs : z.cells.toList.length = sz := by rw [h2, hzl]
  let Z : Array Value := if n * sz = 0 then #[] else z.cells
  let C : Array Value := (Array.range (n * sz)).map (fun j => Z[j % Z.size]!)
  have hC : C.toList = rep n zs := by
    rcases Nat.eq_zero_or_pos n with h0 | h0
    · subst h0; simp [C, rep]
    · have : ¬ n * sz = 0 := Nat.ne_of_gt (Nat.mul_pos h0 (by omega))
      have := range_rep z.cells n sz hzs
      rw [h2] at this
      simpa [C, Z, ‹¬ n * sz = 0›] using this
  obtain ⟨r', k1, k2⟩ := fill_rel (w := w) hr hf (fun i => some (i * sz, sz)) ps.toList _ (rep n zs) C r ho (hfa _) (by rw [hC]; exact flat_lrel m _ (rep_flat n zs h3)) hx
  have hps : (ps.map fun (p : Nat × Operand) => (p.1, a.eval p.2)).toList = ps.toList.map fun q => (q.1, a.eval q.2) := by simp
  have hrs : r'.size = n * sz := by rw [← Array.length_toList, ← k2.1, hlen]
  refine ⟨r', k2, hrs, ?_⟩
  simp only [execOp, hop, Instr.buildSlice, Sem.run_bind, run_underlying hu, Result.andThen_ok, run_sizeOf' hs]
  rw [if_neg (by omega)]
  rw [hps]
  simp only [Z, C] at k1
  by_cases h0 : n * sz = 0
  · simp only [h0, if_true] at k1 ⊢
    simp only [Sem.run_bind, Sem.run_pure, Result.andThen_ok, k1, newRow, run_newObj]
  · simp only [h0, if_false] at k1 ⊢
    simp only [Sem.run_bind, h1, Sem.run_pure, Result.andThen_ok, k1, newRow, run_newObj]

theorem xfill_len {fr : Fr} : ∀ (ps : List (Nat × Nat × Operand)) (cs r : List Value), xfill fr ps cs = some r → r.length = cs.length
  | [], cs, r, h => by simp [xfill] at h; subst h; rfl
  | (off, k, y) :: ps, cs, r, h => by
    simp only [xfill] at h
    split at h
    · rename_i u hu
      cases hcnd : (Nat.beq (vcells u).length k && Nat.ble (off + k) cs.length && (vcells u).all one)
      · simp only [hcnd, cond_false] at h; cases h
      · simp only [hcnd, cond_true] at h
        obtain ⟨g12, _⟩ := Bool.and_eq_true_iff.1 hcnd
        obtain ⟨g1, g2⟩ := Bool.and_eq_true_iff.1 g12
        rw [xfill_len ps _ _ h, splice_length]
        rw [Nat.eq_of_beq_eq_true g1]; exact Nat.le_of_ble_eq_true g2
    · simp at h

theorem alloc_wpOp {ops : Array Oper} {o : Oper} {i N : Nat} {x : XOper} (ho : ops[i]? = some o) (hc : cOper P N ops o = some x) (hk : kindX x = 3) {v : Value} {H0 H1 : AH}
    (hx : xval P call x fr H0 = some (v, H1)) (hr : HR P base W0 m H w) (hf : FrRel m fr a.tmps) (Q : Exit → Act → World → Prop) :
    ∃ blk, H1 = H0.push blk ∧ blk.ro = false ∧ 0 < blk.sz ∧ blk.opn = false ∧
      wpOp P ops Q i (fun a' w' => ∃ v' c ty cs', a' = a.put o.dst v' ∧ w' = { w with heap := w.heap.push (.cells c ty (0, 0)) } ∧ LRel m blk.cells cs' ∧ c.toList = cs' ∧
        ∀ m', m'.f H0.n = some ⟨w.heap.size, 0, c.size, blk.cells.length, blk.sz, false, false⟩ → VRel m' v v') a w := by
  unfold kindX at hk
  split at hk
  · rcases kind_le x.op with h | h | h <;> omega
  rename_i hgd
  have hw : xwanted fr x.gd = some true := by rw [hgd]; rfl
  obtain ⟨h1, h2, h3, h4⟩ := xwanted_sound hc hf hw
  unfold xval at hx
  simp only [hw] at hx
  have h3' : cOp P o = some x.op := by
    unfold cOpF at h3
    cases hco : cOp P o with
    | some y => simp only [hco] at h3; rw [h3]
    | none =>
      simp only [hco] at h3
      rw [← h3] at hx
      simp [failOp, xop, ev] at hx
  have hall : o.op.operands.all (okOpnd P.globals.size) = true := by
    unfold cOp at h3'
    cases hall : o.op.operands.all (okOpnd P.globals.size)
    · simp [hall] at h3'
    · rfl
  have hraw : cRaw P o = some x.op := by
    unfold cOp at h3'
    rw [hall] at h3'
    exact h3'
  have fin : ∀ (v' : Value) (w' : World) (R : Act → World → Prop), (execOp a.eval o).run P w = .ok (.value v') w' → R (a.put o.dst v') w' → wpOp P ops Q i R a w := by
    intro v' w' R hrun hR
    unfold wpOp
    simp only [ho, h1, if_true]
    left
    unfold Oper.wp
    rw [hrun, Oper.upon_value]
    exact hR
  cases hop : o.op with
  | alloc t =>
    simp only [cRaw, hop] at hraw
    split at hraw
    · rename_i zs hz
      split at hraw
      · split at hraw
        · simp only [Option.some.injEq] at hraw
          rw [← hraw] at hk
          simp [kindOf] at hk
        · simp at hraw
      simp only [Option.some.injEq] at hraw
      rw [← hraw] at hx
      simp only [xop, Option.some.injEq, Prod.mk.injEq] at hx
      obtain ⟨rfl, rfl⟩ := hx
      obtain ⟨⟨z, z1, z2⟩, z3⟩ := run_zero' hz w
      refine ⟨_, rfl, rfl, blkSz_pos P t, rfl, fin (.pointer (some ⟨w.heap.size, 0, none⟩)) { w with heap := w.heap.push (.cells z.cells t (0, 0)) } _ ?_ ⟨_, z.cells, t, zs, rfl, rfl, flat_lrel m zs z3, z2, fun m' hm' => vrel_ptr_at hm'⟩⟩
      simp [execOp, hop, Instr.alloc, z1, newVar, newRow]
    · simp at hraw
  | box t y =>
    simp only [cRaw, hop, Option.some.injEq] at hraw
    rw [← hraw] at hx
    have hall' : okOpnd P.globals.size y = true := by simpa [hop, Op.operands] using hall
    simp only [xop] at hx
    split at hx
    · rename_i u hu
      simp only [Option.some.injEq, Prod.mk.injEq] at hx
      obtain ⟨rfl, rfl⟩ := hx
      have hv := ev_sound hr hf hall' hu
      refine ⟨_, rfl, rfl, blkSz_pos P t, rfl, fin (.pointer (some ⟨w.heap.size, 0, none⟩)) { w with heap := w.heap.push (.cells (a.eval y).cells t (0, 0)) } _ ?_ ⟨_, (a.eval y).cells, t, _, rfl, rfl, (vcells_rel hv).1, rfl, fun m' hm' => vrel_ptr_at hm'⟩⟩
      simp [execOp, hop, Instr.box, newVar, newRow]
    · simp at hx
  | makeSlice t y z =>
    have hall' : okOpnd P.globals.size y = true ∧ okOpnd P.globals.size z = true := by simpa [hop, Op.operands] using hall
    simp only [cRaw, hop] at hraw
    split at hraw
    · rename_i e hu
      split at hraw
      · rename_i zs inf hz hi
        cases hcond : (Nat.beq zs.length inf.size && Nat.ble 1 inf.size)
        · simp only [hcond, cond_false] at hraw; cases hraw
        · simp only [hcond, cond_true, Option.some.injEq] at hraw
          rw [← hraw] at hx
          obtain ⟨g1, g2⟩ := Bool.and_eq_true_iff.1 hcond
          have hlen := Nat.eq_of_beq_eq_true g1
          have hs1 := Nat.le_of_ble_eq_true g2
          simp only [xop] at hx
          split at hx
          · rename_i k1 l k2 c hy hz'
            cases hcond2 : (Nat.ble l c && Nat.ble (c * inf.bytes) 140737488355328 && Nat.ble c 140737488355328)
            · simp only [hcond2, cond_false] at hx; cases hx
            · simp only [hcond2, cond_true, Option.some.injEq, Prod.mk.injEq] at hx
              obtain ⟨rfl, rfl⟩ := hx
              simp only [Bool.and_eq_true, Nat.ble_eq] at hcond2
              obtain ⟨⟨q1, q2⟩, q3⟩ := hcond2
              obtain ⟨C, hC, hrun⟩ := run_mks (a := a) hop hu hz hi hlen hs1 hr hf hall'.1 hall'.2 hy hz' q1 q2 q3
              obtain ⟨_, z3⟩ := run_zero' hz w
              refine ⟨_, rfl, rfl, Nat.lt_of_lt_of_le Nat.zero_lt_one hs1, rfl, fin _ _ _ hrun ⟨_, C, e, rep c zs, rfl, rfl, flat_lrel m _ (rep_flat c zs z3), hC, fun m' hm' => ?_⟩⟩
              have e1 : C.size = c * inf.size := by rw [← Array.length_toList, hC, rep_length, hlen]
              have e2 : (rep c zs).length = c * inf.size := by rw [rep_length, hlen]
              simp only [e1, e2] at hm'
              exact vrel_sl_at hm' q1
          · simp at hx
      · simp at hraw
    · simp at hraw
  | buildSlice t n ps =>
    have hall' : ∀ q ∈ ps.toList, okOpnd P.globals.size q.2 = true := by
      intro q hq
      rw [hop] at hall
      simp only [Op.operands, List.all_toArray, List.all_map, List.all_eq_true] at hall
      exact hall q hq
    simp only [cRaw, hop] at hraw
    split at hraw
    · rename_i e hu
      split at hraw
      · rename_i zs sz hz hs
        cases hcond : (Nat.ble (n * sz) 16777216 && Nat.beq zs.length sz && Nat.ble 1 sz)
        · simp only [hcond, cond_false] at hraw; cases hraw
        · simp only [hcond, cond_true, Option.some.injEq] at hraw
          rw [← hraw] at hx
          obtain ⟨g12, g3⟩ := Bool.and_eq_true_iff.1 hcond
          obtain ⟨g1, g2⟩ := Bool.and_eq_true_iff.1 g12
          have hzl : zs.length = sz := Nat.eq_of_beq_eq_true g2
          have hs1 := Nat.le_of_ble_eq_true g3
          simp only [xop] at hx
          split at hx
          · rename_i r hfill
            simp only [Option.some.injEq, Prod.mk.injEq] at hx
            obtain ⟨rfl, rfl⟩ := hx
            have hlen : r.length = n * sz := by rw [xfill_len _ _ _ hfill, rep_length, hzl]
            obtain ⟨r', k2, hrs, hrun⟩ := run_bslice (a := a) hop hu hz hs (Nat.le_of_ble_eq_true g1) hzl hs1 hr hf hall' hfill hlen
            refine ⟨_, rfl, rfl, Nat.lt_of_lt_of_le Nat.zero_lt_one hs1, rfl, fin _ _ _ hrun ⟨_, r', e, r'.toList, rfl, rfl, k2, rfl, fun m' hm' => ?_⟩⟩
            simp only [hrs, hlen] at hm'
            exact vrel_sl_at hm' (Nat.le_refl _)
          · simp at hx
      · simp at hraw
    · simp at hraw
  | _ =>
    exfalso
    simp only [cRaw, hop, Bool.cond_eq_ite] at hraw
    repeat' split at hraw
    all_goals first
      | (cases hraw; done)
      | (simp only [Option.some.injEq] at hraw; rw [← hraw] at hk; simp [kindOf] at hk; done)
      | (simp only [Option.some.injEq] at hraw; rw [← hraw] at hk; revert hk; decide)
      | skip
end Go.Det

set_option linter.unusedSimpArgs false
set_option linter.unusedVariables false
namespace Go.Det

variable {P : Program} {base : Nat} {W0 : World} {call : XCall}

theorem pairOk_spec {ms : List Nat} {ds : List XDop} (h : pairOk ms ds = true) {i j : Nat} {p q : XDop} (hi : ds[i]? = some p) (hj : ds[j]? = some q) (hne : i ≠ j) :
    (p.kind = 2 → q.kind = 2 → bitOf ms i j = true) ∧ (∀ s, q.x.dst = some s → (Fr.has p.rd s = true → bitOf ms i j = true) ∧ (p.x.dst = some s → bitOf ms i j = true)) ∧
    (p.kind = 2 → q.kind = 3 → j < i → bitOf ms i j = true) ∧
    (∀ s, q.x.dst = some s → q.kind = 3 → Fr.has p.rd s = true → j < i → ∀ (k : Nat) (r : XDop), ds[k]? = some r → 2 ≤ r.kind → k < j → (ms.getD i 0).testBit k = true) := by
  have mem : ∀ (k : Nat) (d : XDop), ds[k]? = some d → (d, k) ∈ ds.zipIdx := by
    intro k d hk
    rw [List.mem_zipIdx_iff_getElem?]
    simpa using hk
  have h1 := List.all_eq_true.1 (List.all_eq_true.1 h _ (mem i p hi)) _ (mem j q hj)
  have hb : Nat.beq i j = false := by rw [Tr.beq_eq]; simp [hne]
  simp only [hb, Bool.false_or, Bool.and_eq_true] at h1
  obtain ⟨⟨⟨h1, h3⟩, h4⟩, h2⟩ := h1
  refine ⟨fun k1 k2 => ?_, fun s hs => ?_, fun k1 k2 hlt => ?_, fun s hs k3 hh hlt k r hr hk2 hkj => ?_⟩
  · rw [k1, k2] at h1; simpa using h1
  · simp only [hs, Bool.and_eq_true] at h2
    refine ⟨fun hh => ?_, fun hh => ?_⟩
    · have := h2.1; rw [hh] at this; simpa using this
    · have := h2.2; rw [hh] at this; simpa using this
  · have hb2 : Nat.blt j i = true := by simp [Nat.blt]; omega
    rw [k1, k2, hb2] at h3; simpa using h3
  · have hb2 : Nat.blt j i = true := by simp [Nat.blt]; omega
    unfold lateOk at h4
    simp only [hs, k3, hh, hb2] at h4
    have h5 := List.all_eq_true.1 (by simpa using h4 : (ds.zipIdx.all fun r => !(Nat.ble 2 r.1.kind && Nat.blt r.2 j) || (ms.getD i 0).testBit r.2) = true) _ (mem k r hr)
    have e1 : Nat.ble 2 r.kind = true := by rw [Nat.ble_eq]; omega
    have e2 : Nat.blt k j = true := by simp [Nat.blt]; omega
    simpa [e1, e2] using h5

theorem getD_lt {listed : Array Bool} {j : Nat} (hj : j < listed.size) (d : Bool) : listed.getD j d = listed[j] := by simp [Array.getD, hj]

/-! #### blocks that are made early -/
theorem HRel.garbage {G : Nat} {m : Mp} {H : AH} {w : World} (h : HRel G base W0 m H w) (c : Array Value) (t : TypeId) : HRel G base W0 m H { w with heap := w.heap.push (.cells c t (0, 0)) } :=
  { below := h.below.alloc h.bs _, bs := by simpa using Nat.le_succ_of_le h.bs, dom := h.dom, apart := h.apart, glob := h.glob
    maps := fun B b hg => by
      obtain ⟨a1, a2, a3, a4, ap, al, blk2, a5, a6⟩ := h.maps B b hg
      refine ⟨a1, a2, a3, a4, ap, by show b < (w.heap.push _).size; simp; omega, blk2, a5, a6.keep hg (fun k hD => ?_) (.refl m)⟩
      have := h.objlt hD
      show (w.heap.push _)[k]? = _
      rw [Array.getElem?_push, if_neg (by omega)]
    hid := fun k c hk2 => by
      obtain ⟨a1, a2, a3, a4⟩ := h.hid k c hk2
      exact ⟨a1, by show k < (w.heap.push _).size; simp; omega, a3, a4⟩
    live := fun B blk hb => by
      rcases h.live B blk hb with ⟨e, he, hk⟩ | hg
      case inr => exact .inr hg
      have hl := h.b_lt hb he
      obtain ⟨c', t', fz', hw, h1, h2, h3, h4⟩ := hk.at_
      exact .inl ⟨e, he, { kn := hk.kn, sz := hk.sz, opn := hk.opn, ro := hk.ro, at_ := ⟨c', t', fz', by show (w.heap.push _)[e.b]? = _; rw [Array.getElem?_push, if_neg (by omega)]; exact hw, h1, h2, h3, h4⟩ }⟩ }
theorem Fut.garbage (m : Mp) (H : AH) (w : World) (c : Array Value) (t : TypeId) : Fut m H w m H { w with heap := w.heap.push (.cells c t (0, 0)) } :=
  ⟨.refl m, by simp, Nat.le_refl _, fun k hk hn => ⟨by show (w.heap.push _)[k]? = _; rw [Array.getElem?_push, if_neg (by omega)], hn⟩, fun _ _ => ⟨rfl, id⟩, fun _ _ hn => hn⟩

theorem InIm.all {m : Mp} {H : AH} {k : Nat} (h : InIm m H k) : InAll m H k := h.imp (fun ⟨B, blk, e, h1, h2, _, h4⟩ => ⟨B, blk, e, h1, h2, h4⟩) id

theorem HRel.adopt {G : Nat} {m : Mp} {H : AH} {w : World} (h : HRel G base W0 m H w) (blk : Blk) {k : Nat} {c : Array Value} {ty : TypeId} {cs' : List Value} (hw : w.heap[k]? = some (.cells c ty (0, 0))) (hb : base ≤ k) (hna : ¬ InAll m H k) (hsz : 0 < blk.sz)
    (hro : blk.ro = false) (hopn : blk.opn = false) (hl : LRel m blk.cells cs') (hc : c.toList = cs') :
    HRel G base W0 (m.set H.n ⟨k, 0, c.size, blk.cells.length, blk.sz, false, false⟩) (H.push blk) w := by
  have hext := m.ext_set ⟨k, 0, c.size, blk.cells.length, blk.sz, false, false⟩ h.fresh
  refine { below := h.below, bs := h.bs, dom := ?_, apart := ?_, glob := ?_, live := ?_, maps := ?_, hid := ?_ }
  · intro B b hbb
    rw [AH.get_push] at hbb
    by_cases hB : B = H.n
    · subst hB
      simp at hbb; subst hbb
      have hcs : c.size = blk.cells.length := by rw [← Array.length_toList, hc, hl.1]
      refine .inl ⟨⟨k, 0, c.size, blk.cells.length, blk.sz, false, false⟩, by simp [Mp.set], { kn := rfl, sz := rfl, opn := hopn.symm, ro := hro.symm, at_ := ⟨c, ty, (0, 0), hw, rfl, by simp [hcs], ?_, fun _ => ⟨hb, nofz _⟩⟩ }⟩
      intro i u hi
      obtain ⟨u', h1, h2⟩ := hl.2 i u hi
      refine ⟨u', ?_, h2.mono hext⟩
      rw [← hc] at h1
      rw [Nat.zero_add, ← Array.getElem?_toList]
      exact h1
    · simp [hB] at hbb
      rcases h.live B b hbb with ⟨e, he, hk⟩ | hg
      case inr => exact .inr hg
      obtain ⟨c', t', fz', hw', h1, h2, h3, h4⟩ := hk.at_
      exact .inl ⟨e, by simp [Mp.set, hB, he], { kn := hk.kn, sz := hk.sz, opn := hk.opn, ro := hk.ro, at_ := ⟨c', t', fz', hw', h1, h2, fun i v hi => let ⟨v', a, b⟩ := h3 i v hi; ⟨v', a, b.mono hext⟩, h4⟩ }⟩
  · intro C b hg
    obtain ⟨a1, a2, a3, a4, ap, al, blk2, a5, a6⟩ := h.maps C b hg
    have hCn : C ≠ H.n := by omega
    refine ⟨by simp [Mp.set, hCn, a1], by simp; omega, a3, a4, fun D bl e2 hD he2 => ?_, al, blk2, by rw [AH.get_push, if_neg hCn]; exact a5, a6.keep hg (fun k hD => rfl) hext⟩
    rw [AH.get_push] at hD
    simp only [Mp.set] at he2
    by_cases hDn : D = H.n
    · simp [hDn] at he2; subst he2
      exact fun (x : k = b) => hna (.inr (.inl ⟨C, (by rw [x]; exact hg : m.g C = some k)⟩))
    · simp [hDn] at hD he2; exact ap D bl e2 hD he2
  · intro k2 c2 hk2
    obtain ⟨a1, a2, a3, a4⟩ := h.hid k2 c2 hk2
    refine ⟨a1, a2, fun D bl e2 hD he2 => ?_, a4⟩
    rw [AH.get_push] at hD
    simp only [Mp.set] at he2
    by_cases hDn : D = H.n
    · simp [hDn] at he2; subst he2
      exact fun (x : k = k2) => hna (.inr (.inr ⟨c2, (by rw [x]; exact hk2 : m.h k = some c2)⟩))
    · simp [hDn] at hD he2; exact a3 D bl e2 hD he2
  · intro B e he
    simp only [Mp.set] at he
    by_cases hB : B = H.n
    · simp [hB] at he; subst he; simp [hB, hsz]
    · simp [hB] at he; have := h.dom B e he; exact ⟨by simp; omega, this.2⟩
  · intro B B' b1 b2 e e' g1 g2 he he' hne hro'
    rw [AH.get_push] at g1 g2
    simp only [Mp.set] at he he'
    by_cases hB : B = H.n
    · by_cases hB' : B' = H.n
      · omega
      · simp [hB] at he; simp [hB'] at he' g2; subst he
        intro x
        exact hna (.inl ⟨B', b2, e', g2, he', x.symm⟩)
    · simp [hB] at he g1
      by_cases hB' : B' = H.n
      · simp [hB'] at he'; subst he'
        intro x
        exact hna (.inl ⟨B, b1, e, g1, he, x⟩)
      · simp [hB'] at he' g2
        exact h.apart B B' b1 b2 e e' g1 g2 he he' hne hro'
  · refine ⟨Nat.le_trans h.glob.1 (by simp), fun g hg => ?_⟩
    have hgn : ¬ g = H.n := by have := h.glob.1; omega
    simp only [Mp.set, hgn, if_false]
    exact h.glob.2 g hg

theorem Fut.adopt {G : Nat} {m0 : Mp} {H0 : AH} {w0 : World} {m : Mp} {H : AH} {w : World} (F : Fut m0 H0 w0 m H w) (h : HRel G base W0 m H w) (blk : Blk) (e : Ent) (hk : w0.heap.size ≤ e.b) : Fut m0 H0 w0 (m.set H.n e) (H.push blk) w := by
  refine ⟨F.ext.trans (m.ext_set e h.fresh), F.size, Nat.le_trans F.n (by simp), fun k hk' hn => ⟨(F.keep k hk' hn).1, ?_⟩, fun B hB => ?_, fun k hk' hn => ?_⟩
  · rintro (⟨B, b, e', g1, g2, g3, g4⟩ | hx)
    · rw [AH.get_push] at g1
      simp only [Mp.set] at g2
      by_cases hB : B = H.n
      · simp [hB] at g2; subst g2; omega
      · simp [hB] at g1 g2
        exact (F.keep k hk' hn).2 (.inl ⟨B, b, e', g1, g2, g3, g4⟩)
    · exact (F.keep k hk' hn).2 (.inr hx)
  · have hBn : ¬ B = H.n := by have := F.n; omega
    obtain ⟨a, b⟩ := F.old B hB
    exact ⟨by simp [Mp.set, hBn, a], fun x => by rw [AH.get_push]; simp [hBn, b x]⟩
  · rintro (⟨B, b, e', g1, g2, g4⟩ | hx)
    · rw [AH.get_push] at g1
      simp only [Mp.set] at g2
      by_cases hB : B = H.n
      · simp [hB] at g2; subst g2; omega
      · simp [hB] at g1 g2
        exact F.all k hk' hn (.inl ⟨B, b, e', g1, g2, g4⟩)
    · exact F.all k hk' hn (.inr hx)

/-- a block that lies in the machine and is not yet one of ours -/
def PendAt (base : Nat) (w0 : World) (m : Mp) (H : AH) (w : World) (blk : Blk) (n : Nat) (v v' : Value) (k : Nat) : Prop :=
  ∃ c ty cs', w.heap[k]? = some (.cells c ty (0, 0)) ∧ w0.heap.size ≤ k ∧ base ≤ k ∧ ¬ InAll m H k ∧ LRel m blk.cells cs' ∧ c.toList = cs' ∧
    ∀ m', m'.f n = some ⟨k, 0, c.size, blk.cells.length, blk.sz, false, false⟩ → VRel m' v v'
theorem PendAt.lt {base : Nat} {w0 : World} {m : Mp} {H : AH} {w : World} {blk : Blk} {n : Nat} {v v' : Value} {k : Nat} (h : PendAt base w0 m H w blk n v v' k) : k < w.heap.size := by
  obtain ⟨c, ty, cs', h1, _⟩ := h
  exact (Array.getElem?_eq_some_iff.1 h1).1
theorem PendAt.fut {base : Nat} {w0 : World} {m m' : Mp} {H H' : AH} {w w' : World} {blk : Blk} {n : Nat} {v v' : Value} {k : Nat} (h : PendAt base w0 m H w blk n v v' k) (F : Fut m H w m' H' w') : PendAt base w0 m' H' w' blk n v v' k := by
  have hk := h.lt
  obtain ⟨c, ty, cs', h1, h2, h3, h4, h5, h6, h7⟩ := h
  exact ⟨c, ty, cs', (F.keep k hk (fun x => h4 x.all)).1.trans h1, h2, h3, F.all k hk h4, ⟨h5.1, fun i u hi => let ⟨u', a, b⟩ := h5.2 i u hi; ⟨u', a, b.mono F.ext⟩⟩, h6, h7⟩

structure DPre (P : Program) (base : Nat) (W0 : World) (N : Nat) (ops : Array Oper) (ds : List XDop) (f : Nat → Fr) (h : Nat → AH) (v : Nat → Value) (m0 : Mp) (w0 : World) (kap : Nat → Nat) (nu : Nat → Value) (listed : Array Bool) (a : Act) (w : World) (m : Mp) (t : Nat) : Prop where
  hr : HR P base W0 m (h t) w
  fut : Fut m0 (h 0) w0 m (h t) w
  df : a.defers = []
  sz : N ≤ a.tmps.size
  lsz : listed.size = ds.length
  closed : ∀ k o, listed.getD k false = true → ops[k]? = some o → ∀ e ∈ o.after, Region.binds .any e = true → listed.getD e.on false = true
  tn : t ≤ ds.length
  te : ∀ (j : Nat) (d : XDop), ds[j]? = some d → d.kind = 2 → (listed.getD j false = true ↔ j < t)
  te3 : ∀ (j : Nat) (d : XDop), ds[j]? = some d → d.kind = 3 → j < t → listed.getD j false = true
  ts : t = 0 ∨ ∃ (j : Nat) (d : XDop), ds[j]? = some d ∧ 2 ≤ d.kind ∧ t = j + 1
  fa : ∀ s, (∀ (j : Nat) (d : XDop), ds[j]? = some d → listed.getD j false = true → d.x.dst ≠ some s) → ∀ v, (f 0).get s = some v → ∃ v', a.tmps[s]? = some v' ∧ VRel m v v'
  fb : ∀ (s i : Nat) (d : XDop), ds[i]? = some d → listed.getD i false = true → d.x.dst = some s → (d.kind = 3 → i < t) → (∀ (j : Nat) (e : XDop), ds[j]? = some e → listed.getD j false = true → e.x.dst = some s → j ≤ i) →
    ∀ v, (f (i + 1)).get s = some v → ∃ v', a.tmps[s]? = some v' ∧ VRel m v v'
  pend : ∀ (j : Nat) (d : XDop), ds[j]? = some d → d.kind = 3 → listed.getD j false = true → t ≤ j → ∃ blk, h (j + 1) = (h j).push blk ∧ blk.ro = false ∧ 0 < blk.sz ∧ blk.opn = false ∧ PendAt base w0 m (h t) w blk (h j).n (v j) (nu j) (kap j)
  pslot : ∀ (s j : Nat) (d : XDop), ds[j]? = some d → d.kind = 3 → listed.getD j false = true → t ≤ j → d.x.dst = some s → (∀ (i : Nat) (e : XDop), ds[i]? = some e → listed.getD i false = true → e.x.dst = some s → i ≤ j) → a.tmps[s]? = some (nu j)
  inj : ∀ (j j' : Nat) (d d' : XDop), ds[j]? = some d → ds[j']? = some d' → d.kind = 3 → d'.kind = 3 → listed.getD j false = true → listed.getD j' false = true → t ≤ j → t ≤ j' → j ≠ j' → kap j ≠ kap j'

/-- whatever was made early waits for an effect -/
def Late (ds : List XDop) (listed : Array Bool) (t : Nat) : Prop :=
  ∀ (j : Nat) (d : XDop), ds[j]? = some d → d.kind = 3 → listed.getD j false = true → t ≤ j → ∃ (j' : Nat) (d' : XDop), t ≤ j' ∧ j' < j ∧ ds[j']? = some d' ∧ 2 ≤ d'.kind ∧ listed.getD j' false = false

theorem least_of (Pr : Nat → Prop) : ∀ j, Pr j → ∃ j0, j0 ≤ j ∧ Pr j0 ∧ ∀ i, i < j0 → ¬ Pr i := by
  intro j
  induction j using Nat.strongRecOn with
  | _ j ih =>
    intro hj
    by_cases h : ∃ i, i < j ∧ Pr i
    · obtain ⟨i, h1, h2⟩ := h
      obtain ⟨j0, g1, g2, g3⟩ := ih i h1 h2
      exact ⟨j0, by omega, g2, g3⟩
    · exact ⟨j, Nat.le_refl _, hj, fun i hi hp => h ⟨i, hi, hp⟩⟩

theorem settle {N : Nat} {ops : Array Oper} {ds : List XDop} {f : Nat → Fr} {h : Nat → AH} {v : Nat → Value} {m0 : Mp} {w0 : World} {kap : Nat → Nat} {nu : Nat → Value} {listed : Array Bool} {a : Act} {w : World}
    (hstep : ∀ (k : Nat) (d : XDop), ds[k]? = some d → f (k + 1) = (f k).put? d.x.dst (v k))
    (hconst : ∀ i t, t ≤ i → i ≤ ds.length → (∀ (k : Nat) (d : XDop), t ≤ k → k < i → ds[k]? = some d → ¬ 2 ≤ d.kind) → h i = h t) (hk3 : ∀ (k : Nat) (d : XDop), ds[k]? = some d → 2 ≤ d.kind → d.kind = 2 ∨ d.kind = 3) :
    ∀ (n t : Nat) (m : Mp), ds.length - t ≤ n → DPre P base W0 N ops ds f h v m0 w0 kap nu listed a w m t → ∃ m' t', DPre P base W0 N ops ds f h v m0 w0 kap nu listed a w m' t' ∧ Late ds listed t' := by
  intro n
  induction n with
  | zero =>
    intro t m hn I
    refine ⟨m, t, I, fun j d hd _ _ htj => ?_⟩
    have := (List.getElem?_eq_some_iff.1 hd).1
    omega
  | succ n ih =>
    intro t m hn I
    by_cases hl : Late ds listed t
    · exact ⟨m, t, I, hl⟩
    · -- one that waits for nothing
      have hex : ∃ (j : Nat) (d : XDop), ds[j]? = some d ∧ d.kind = 3 ∧ listed.getD j false = true ∧ t ≤ j ∧ ∀ (j' : Nat) (d' : XDop), t ≤ j' → j' < j → ds[j']? = some d' → 2 ≤ d'.kind → listed.getD j' false = true := by
        refine Classical.byContradiction fun hno => hl fun j d hd hk hlj htj => Classical.byContradiction fun hno2 => hno ⟨j, d, hd, hk, hlj, htj, fun j' d' h1 h2 h3 h4 => ?_⟩
        cases hb : listed.getD j' false
        · exact absurd ⟨j', d', h1, h2, h3, h4, hb⟩ hno2
        · rfl
      obtain ⟨j, d, hd, hk, hlj, htj, hall⟩ := hex
      obtain ⟨j0, g1, ⟨g2, d0, g3, g4⟩, g5⟩ := least_of (fun j => t ≤ j ∧ ∃ d, ds[j]? = some d ∧ 2 ≤ d.kind) j ⟨htj, d, hd, by omega⟩
      have hlj0 : listed.getD j0 false = true := by
        rcases Nat.lt_or_ge j0 j with h' | h'
        · exact hall j0 d0 g2 h' g3 g4
        · obtain rfl : j0 = j := by omega
          exact hlj
      have hk0 : d0.kind = 3 := by
        rcases hk3 j0 d0 g3 g4 with h' | h'
        · have := (I.te j0 d0 g3 h').1 hlj0; omega
        · exact h'
      have hjn := (List.getElem?_eq_some_iff.1 g3).1
      have hne : ∀ (k : Nat) (e : XDop), t ≤ k → k < j0 → ds[k]? = some e → ¬ 2 ≤ e.kind := fun k e h1 h2 h3 h4 => g5 k h2 ⟨h1, e, h3, h4⟩
      have hh : h j0 = h t := hconst j0 t g2 (Nat.le_of_lt hjn) hne
      obtain ⟨blk, b1, b2, b3, b4, hp⟩ := I.pend j0 d0 g3 hk0 hlj0 g2
      have hplt := hp.lt
      obtain ⟨c, ty, cs', p1, p2, p3, p4, p5, p6, p7⟩ := hp
      rw [hh] at b1 p7
      have hadopt := HRel.adopt I.hr blk p1 p3 p4 b3 b2 b4 p5 p6
      have hfut := Fut.adopt I.fut I.hr blk ⟨kap j0, 0, c.size, blk.cells.length, blk.sz, false, false⟩ p2
      have hext := m.ext_set ⟨kap j0, 0, c.size, blk.cells.length, blk.sz, false, false⟩ (HRel.fresh I.hr)
      refine ih (j0 + 1) (m.set (h t).n ⟨kap j0, 0, c.size, blk.cells.length, blk.sz, false, false⟩) (by omega) ?_
      refine { hr := by rw [b1]; exact hadopt, fut := by rw [b1]; exact hfut, df := I.df, sz := I.sz, lsz := I.lsz, closed := I.closed, tn := hjn, te := ?_, te3 := ?_, ts := .inr ⟨j0, d0, g3, g4, rfl⟩, fa := ?_, fb := ?_, pend := ?_, pslot := ?_, inj := ?_ }
      · intro k e he hke
        rw [I.te k e he hke]
        refine ⟨fun h' => by omega, fun h' => ?_⟩
        rcases Nat.lt_or_ge k t with h1 | h1
        · exact h1
        · exfalso
          rcases Nat.lt_or_ge k j0 with h2 | h2
          · exact hne k e h1 h2 he (by omega)
          · obtain rfl : k = j0 := by omega
            rw [g3] at he; cases he; omega
      · intro k e he hke hlt
        rcases Nat.lt_or_ge k t with h1 | h1
        · exact I.te3 k e he hke h1
        · rcases Nat.lt_or_ge k j0 with h2 | h2
          · exact absurd (by omega) (hne k e h1 h2 he)
          · obtain rfl : k = j0 := by omega
            exact hlj0
      · intro s hs u hu
        obtain ⟨u', q1, q2⟩ := I.fa s hs u hu
        exact ⟨u', q1, q2.mono hext⟩
      · intro s i e he hli hes hlt hmax u hu
        by_cases hij : i = j0
        · subst hij
          rw [g3] at he; cases he
          refine ⟨nu i, I.pslot s i d0 g3 hk0 hlj0 g2 hes hmax, ?_⟩
          rw [hstep i d0 g3, Fr.get_put?, if_pos hes] at hu
          cases hu
          exact p7 _ (by simp [Mp.set])
        · obtain ⟨u', q1, q2⟩ := I.fb s i e he hli hes (fun hk' => by
            have := hlt hk'
            rcases Nat.lt_or_ge i t with h1 | h1
            · exact h1
            · exact absurd (by omega) (hne i e h1 (by omega) he)) hmax u hu
          exact ⟨u', q1, q2.mono hext⟩
      · intro k e he hke hlk htk
        obtain ⟨bk, c1, c2, c3, c4, c, ty, cs', r1, r2, r3, r4, r5, r6, r7⟩ := I.pend k e he hke hlk (by omega)
        refine ⟨bk, c1, c2, c3, c4, c, ty, cs', r1, r2, r3, ?_, ⟨r5.1, fun i u hi => let ⟨u', x, y⟩ := r5.2 i u hi; ⟨u', x, y.mono hext⟩⟩, r6, r7⟩
        rintro (⟨B, b, e', q1, q2, q3⟩ | hx)
        · rw [b1, AH.get_push] at q1
          simp only [Mp.set] at q2
          by_cases hB : B = (h t).n
          · simp [hB] at q2; subst q2
            exact I.inj j0 k d0 e g3 he hk0 hke hlj0 hlk g2 (by omega) (by omega) q3
          · simp [hB] at q1 q2
            exact r4 (.inl ⟨B, b, e', q1, q2, q3⟩)
        · exact r4 (.inr hx)
      · intro s k e he hke hlk htk hes hmax
        exact I.pslot s k e he hke hlk (by omega) hes hmax
      · intro k k' e e' he he' hke hke' hlk hlk' htk htk' hne'
        exact I.inj k k' e e' he he' hke hke' hlk hlk' (by omega) (by omega) hne'

theorem keep_has (fr : Fr) (ks : List Nat) (i : Nat) (v : Value) (h : (fr.keep ks).get i = some v) : Fr.has ks i = true := by
  induction fr with
  | nil => simp [Fr.keep, Fr.get] at h
  | cons p r ih =>
    simp only [Fr.keep] at h
    cases hb : Fr.has ks p.1
    · simp only [hb, cond_false] at h; exact ih h
    · simp only [hb, cond_true, Fr.get, Tr.beq_eq] at h
      by_cases hp : p.1 = i
      · rw [← hp]; exact hb
      · simp only [hp, decide_false, cond_false] at h; exact ih h

theorem xdops_wpAny (hcall : CallsOk P call) {N : Nat} {ops : Array Oper} {ds : List XDop} {Q : Exit → Act → World → Prop} {fr fr' : Fr} {H H' : AH} {m0 : Mp} {a0 : Act} {w0 : World} (hc : cDops P N ops = some ds)
    (hx : xdops P call ds fr H = some (fr', H')) (hst : St P base W0 N m0 fr H a0 w0) (hq : ∀ m' a' w', St P base W0 N m' fr' H' a' w' → Fut m0 H w0 m' H' w' → Q .normal a' w') :
    wpAny P .any ops Q ops.size (Array.replicate ops.size false) a0 w0 := by
  unfold cDops at hc
  split at hc
  · simp at hc
  rename_i xs hxs
  cases hok : (depOk ops (masks ops.toList []) && pairOk (masks ops.toList []) (mkD (masks ops.toList []) (xs.map fun x => kindX x) 0 xs (ops.toList.map (rdOf ops))))
  · simp only [hok, cond_false] at hc; cases hc
  simp only [hok, cond_true, Option.some.injEq] at hc
  obtain ⟨hdep, hpair⟩ := Bool.and_eq_true_iff.1 hok
  rw [hc] at hpair
  generalize hms : masks ops.toList [] = ms at *
  obtain ⟨hxl, hxget⟩ := cOpers_get _ _ hxs
  have hlen : ds.length = ops.size := by
    rw [← hc, mkD_length _ _ _ _ _ (by simp [hxl]), hxl, Array.length_toList]
  -- what an operation is
  have hds : ∀ (k : Nat) (d : XDop), ds[k]? = some d → ∃ o, ops[k]? = some o ∧ cOper P N ops o = some d.x ∧ d.kind = kindX d.x ∧
      d.stab = (bif Nat.beq d.kind 1 then stabList ms (xs.map fun x => kindX x) k else []) ∧ (xs.map fun x => kindX x).getD k 0 = d.kind := by
    intro k d hk
    rw [← hc] at hk
    obtain ⟨x, r, h1, h2, h3⟩ := mkD_get _ _ _ _ _ _ _ hk
    obtain ⟨o, g1, g2⟩ := hxget k x h1
    subst h3
    refine ⟨o, by simpa using g1, g2, rfl, by simp, ?_⟩
    simp [List.getD_eq_getElem?_getD, h1]
  have hkl : (xs.map fun x => kindX x).length = ds.length := by simp [hxl, hlen]
  have hks : ∀ k, k < ds.length → ∃ d, ds[k]? = some d ∧ (xs.map fun x => kindX x).getD k 0 = d.kind := by
    intro k hk
    refine ⟨ds[k], List.getElem?_eq_getElem hk, ?_⟩
    obtain ⟨_, _, _, _, _, g⟩ := hds k _ (List.getElem?_eq_getElem hk)
    exact g
  generalize hkse : (xs.map fun x => kindX x) = ks at *
  -- the run
  unfold xdops at hx
  split at hx
  case h_2 => simp at hx
  rename_i r hrun
  cases hstab : r.cs.all (stabOk P call r.hs)
  · simp only [hstab, cond_false] at hx; cases hx
  simp only [hstab, cond_true, Option.some.injEq, Prod.mk.injEq] at hx
  obtain ⟨rfl, rfl⟩ := hx
  obtain ⟨f, h, v, t1, t2, t3, t4, t5, t6, _⟩ := drun_trace ds 0 fr H _ _ r hrun
  simp only [Nat.zero_add] at t3 t4 t5 t6
  have t5' : ∀ (k : Nat) (d : XDop), ds[k]? = some d → xval P call d.x ((f k).keep d.rd) (h k) = some (v k, h (k + 1)) ∧ f (k + 1) = (f k).put? d.x.dst (v k) ∧ (d.stab ≠ [] → (d, (f k).keep d.rd, v k) ∈ r.cs) := t5
  -- heaps that stay
  have hk23 : ∀ (k : Nat) (d : XDop), ds[k]? = some d → d.kind = 0 ∨ d.kind = 1 ∨ d.kind = 2 ∨ d.kind = 3 := by
    intro k d hd
    obtain ⟨_, _, _, g, _, _⟩ := hds k d hd
    rw [g]; exact kindX_le _
  have hconst : ∀ i t, t ≤ i → i ≤ ds.length → (∀ (k : Nat) (d : XDop), t ≤ k → k < i → ds[k]? = some d → ¬ 2 ≤ d.kind) → h i = h t := by
    intro i
    induction i with
    | zero => intro t ht _ _; rw [Nat.le_zero.1 ht]
    | succ i ih =>
      intro t ht hi hk
      rcases Nat.lt_or_ge i t with h' | h'
      · rw [show t = i + 1 by omega]
      · have hd := List.getElem?_eq_getElem (show i < ds.length by omega)
        have hnk := hk i _ h' (by omega) hd
        obtain ⟨_, _, _, g, _, _⟩ := hds i _ hd
        have := (t5' i _ hd).1
        rw [← ih t h' (by omega) (fun k d a b c => hk k d a (by omega) c)]
        rcases kindX_le ds[i].x with kk | kk | kk | kk
        · exact (xval_pure (kindX_of kk (by omega)) this (h i)).1
        · exact xval_read (kindX_of kk (by omega)) this
        · rw [← g] at kk; exact absurd (by omega) hnk
        · rw [← g] at kk; exact absurd (by omega) hnk
  -- the last writer of a slot
  have lastW : ∀ i, i ≤ ds.length → ∀ s, (∃ (d : Nat) (e : XDop), d < i ∧ ds[d]? = some e ∧ e.x.dst = some s ∧ (∀ (j : Nat) (e' : XDop), d < j → j < i → ds[j]? = some e' → e'.x.dst ≠ some s) ∧ (f i).get s = (f (d + 1)).get s) ∨
      ((∀ (j : Nat) (e' : XDop), j < i → ds[j]? = some e' → e'.x.dst ≠ some s) ∧ (f i).get s = (f 0).get s) := by
    intro i
    induction i with
    | zero => intro _ s; exact .inr ⟨fun j _ hj => by omega, rfl⟩
    | succ i ih =>
      intro hi s
      have hd := List.getElem?_eq_getElem (show i < ds.length by omega)
      have hput := (t5' i _ hd).2.1
      by_cases hw : ds[i].x.dst = some s
      · exact .inl ⟨i, _, by omega, hd, hw, fun j _ a b => by omega, rfl⟩
      · have hget : (f (i + 1)).get s = (f i).get s := by rw [hput, Fr.get_put?, if_neg hw]
        rcases ih (by omega) s with ⟨d, e, g1, g2, g3, g4, g5⟩ | ⟨g1, g2⟩
        · refine .inl ⟨d, e, by omega, g2, g3, fun j e' a b c => ?_, by rw [hget, g5]⟩
          by_cases hji : j = i
          · subst hji; rw [hd] at c; cases c; exact hw
          · exact g4 j e' a (by omega) c
        · refine .inr ⟨fun j e' a b => ?_, by rw [hget, g2]⟩
          by_cases hji : j = i
          · subst hji; rw [hd] at b; cases b; exact hw
          · exact g1 j e' (by omega) b
  -- all has been carried out
  have hfin : ∀ (kap : Nat → Nat) (nu : Nat → Value) (listed : Array Bool) (a : Act) (w : World) (m : Mp) (t : Nat), DPre P base W0 N ops ds f h v m0 w0 kap nu listed a w m t → Late ds listed t → (∀ j, j < ds.length → listed.getD j false = true) → Q .normal a w := by
    intro kap nu listed a w m t I hlate hall
    have hno : ∀ (k : Nat) (d : XDop), ds[k]? = some d → 2 ≤ d.kind → k < t := by
      intro k d hd hk
      have hkn := (List.getElem?_eq_some_iff.1 hd).1
      rcases Nat.lt_or_ge k t with h' | h'
      · exact h'
      · exfalso
        rcases hk23 k d hd with q | q | q | q
        · omega
        · omega
        · have := (I.te k d hd q).1 (hall k hkn); omega
        · obtain ⟨j', d', _, _, x3, _, x5⟩ := hlate k d hd q (hall k hkn) h'
          rw [hall j' (List.getElem?_eq_some_iff.1 x3).1] at x5; cases x5
    have hh : h ds.length = h t := hconst _ t I.tn (Nat.le_refl _) fun k d a1 a2 hd hk => by
      have := hno k d hd hk
      omega
    refine hq m a w { hr := ?_, fr := ?_, df := I.df, sz := I.sz } ?_
    · rw [← t4, hh]; exact I.hr
    · rw [← t3]
      intro s u hu
      rcases lastW ds.length (Nat.le_refl _) s with ⟨d, e, g1, g2, g3, g4, g5⟩ | ⟨g1, g2⟩
      · refine I.fb s d e g2 (hall d g1) g3 (fun hk => hno d e g2 (by omega)) (fun j e' hj _ hw => ?_) u (by rw [← g5]; exact hu)
        rcases Nat.lt_or_ge d j with h' | h'
        · have : j < ds.length := (List.getElem?_eq_some_iff.1 hj).1
          exact absurd hw (g4 j e' h' this hj)
        · exact h'
      · refine I.fa s (fun j e' hj _ => g1 j e' (List.getElem?_eq_some_iff.1 hj).1 hj) u (by rw [← g2]; exact hu)
    · rw [← t4, hh, ← t2]; exact I.fut
  -- the rounds
  have main : ∀ (fuel : Nat) (kap : Nat → Nat) (nu : Nat → Value) (listed : Array Bool) (a : Act) (w : World) (m : Mp) (t : Nat), DPre P base W0 N ops ds f h v m0 w0 kap nu listed a w m t → Late ds listed t → listed.toList.count false = fuel → wpAny P .any ops Q fuel listed a w := by
    intro fuel
    induction fuel with
    | zero =>
      intro kap nu listed a w m t I hlate hcnt
      have hall : ∀ j, j < ds.length → listed.getD j false = true := by
        intro j hj
        have hj' : j < listed.size := by rw [I.lsz]; exact hj
        rw [getD_lt hj']
        have := List.count_eq_zero.1 hcnt
        cases hb : listed[j]
        · exfalso; apply this; rw [← hb]; simp
        · rfl
      refine ⟨?_, hfin kap nu listed a w m t I hlate hall⟩
      cases hr : Region.ready .any ops listed with
      | nil => rfl
      | cons x l =>
        have : x ∈ Region.ready .any ops listed := by rw [hr]; simp
        obtain ⟨g1, o, g2, _⟩ := mem_ready.1 this
        have hx : x < ds.length := by rw [hlen]; exact (Array.getElem?_eq_some_iff.1 g2).1
        have h1 := hall x hx
        rw [getD_lt (by rw [I.lsz]; exact hx)] at g1 h1
        rw [h1] at g1; simp at g1
    | succ fuel ih =>
      intro kap nu listed a w m t I hlate hcnt
      refine ⟨fun hnil => hfin kap nu listed a w m t I hlate ?_, ?_⟩
      · -- nothing is ready: all is done
        intro j
        induction j using Nat.strongRecOn with
        | _ j ihj =>
          intro hj
          cases hb : listed.getD j false
          · exfalso
            have hjo : j < ops.size := by rw [← hlen]; exact hj
            have : j ∈ Region.ready .any ops listed := by
              rw [mem_ready]
              refine ⟨?_, ops[j], Array.getElem?_eq_getElem hjo, fun e he hbe => ?_⟩
              · rw [getD_lt (by rw [I.lsz]; exact hj)] at hb ⊢; exact hb
              · have h1 := List.all_eq_true.1 hdep j (List.mem_range.2 hjo)
                simp only [Array.getElem?_eq_getElem hjo, Bool.and_eq_true] at h1
                have := List.all_eq_true.1 h1.2 e (by simpa using he)
                simp only [hbe, Bool.not_true, Bool.false_or] at this
                exact ihj e.on (natlt this) (by have := natlt this; omega)
            rw [hnil] at this; cases this
          · rfl
      · intro i hi
        obtain ⟨g1, o, ho, hedge⟩ := mem_ready.1 hi
        have hin : i < ds.length := by rw [hlen]; exact (Array.getElem?_eq_some_iff.1 ho).1
        have hil : i < listed.size := by rw [I.lsz]; exact hin
        have hno : listed.getD i false = false := by rw [getD_lt hil] at g1 ⊢; exact g1
        obtain ⟨d, hd, hkd⟩ := hks i hin
        obtain ⟨o', ho', hco, hkind, hstb, _⟩ := hds i d hd
        rw [ho] at ho'; cases ho'
        obtain ⟨r1, r2, r3⟩ := t5' i d hd
        obtain ⟨dd1, dd2⟩ := cOper_dst hco
        -- what others must be
        have bit : ∀ j, bitOf ms i j = true → j ≠ i → (j < i → listed.getD j false = true) ∧ (i < j → listed.getD j false = false) := by
          intro j hb hji
          unfold bitOf at hb
          refine ⟨fun hlt => ?_, fun hlt => ?_⟩
          · have : Nat.blt j i = true := by simp [Nat.blt]; omega
            rw [this] at hb
            exact mask_closed hdep (fun k => listed.getD k false = true) I.closed i o ho hedge j hb
          · have : Nat.blt j i = false := by
              cases hbl : Nat.blt j i
              · rfl
              · have := natlt hbl; omega
            rw [this] at hb
            cases hex : listed.getD j false
            · rfl
            · exfalso
              have hjn : j < ops.size := by
                rcases Nat.lt_or_ge j ops.size with h' | h'
                · exact h'
                · rw [show listed.getD j false = false from by simp [Array.getD, show ¬ j < listed.size by rw [I.lsz, hlen]; omega]] at hex; simp at hex
              have := mask_closed hdep (fun k => listed.getD k false = true) I.closed j _ (Array.getElem?_eq_getElem hjn) (I.closed j _ hex (Array.getElem?_eq_getElem hjn)) i hb
              rw [hno] at this; simp at this
        -- the operation's own slots
        have hfr : FrRel m ((f i).keep d.rd) a.tmps := by
          intro s u hu
          have hhas := keep_has _ _ _ _ hu
          have hu' := Fr.get_keep _ _ _ _ hu
          have hwr : ∀ (j : Nat) (e : XDop), ds[j]? = some e → e.x.dst = some s → j ≠ i → (j < i → listed.getD j false = true) ∧ (i < j → listed.getD j false = false) := by
            intro j e he hes hji
            exact bit j (((pairOk_spec hpair hd he (fun x => hji x.symm)).2.1 s hes).1 hhas) hji
          rcases lastW i (Nat.le_of_lt hin) s with ⟨k, e, q1, q2, q3, q4, q5⟩ | ⟨q1, q2⟩
          · refine I.fb s k e q2 ((hwr k e q2 q3 (by omega)).1 q1) q3 (fun hk3 => ?_) (fun j e' hj hjl hjs => ?_) u (by rw [← q5]; exact hu')
            · rcases Nat.lt_or_ge k t with h' | h'
              · exact h'
              · exfalso
                obtain ⟨j', d', x1, x2, x3, x4, x5⟩ := hlate k e q2 hk3 ((hwr k e q2 q3 (by omega)).1 q1) h'
                have hb := (pairOk_spec hpair hd q2 (by omega)).2.2.2 s q3 hk3 hhas q1 j' d' x3 x4 x2
                have := mask_closed hdep (fun k => listed.getD k false = true) I.closed i o ho hedge j' hb
                rw [x5] at this; cases this
            rcases Nat.lt_or_ge k j with h' | h'
            · rcases Nat.lt_trichotomy j i with h2 | h2 | h2
              · exact absurd hjs (q4 j e' h' h2 hj)
              · subst h2; rw [hno] at hjl; simp at hjl
              · rw [(hwr j e' hj hjs (by omega)).2 h2] at hjl; simp at hjl
            · exact h'
          · refine I.fa s (fun j e' hj hjl hjs => ?_) u (by rw [← q2]; exact hu')
            rcases Nat.lt_trichotomy j i with h2 | h2 | h2
            · exact q1 j e' h2 hj hjs
            · subst h2; rw [hno] at hjl; simp at hjl
            · rw [(hwr j e' hj hjs (by omega)).2 h2] at hjl; simp at hjl
        -- what is to be kept of the count
        have hcount : (listed.setIfInBounds i true).toList.count false = fuel := by
          rw [Array.toList_setIfInBounds, List.count_set (by simpa using hil)]
          have : listed.toList[i]'(by simpa using hil) = false := by
            rw [getD_lt hil] at hno; simpa using hno
          rw [this, hcnt]; simp
        have hclosed : ∀ k ok, (listed.setIfInBounds i true).getD k false = true → ops[k]? = some ok → ∀ e ∈ ok.after, Region.binds .any e = true → (listed.setIfInBounds i true).getD e.on false = true := by
          intro k ok hk hok e he hbe
          by_cases hki : k = i
          · subst hki
            rw [ho] at hok; cases hok
            exact getD_set_true (hedge e he hbe)
          · rw [getD_set_ne false (fun x => hki x.symm)] at hk
            exact getD_set_true (I.closed k ok hk hok e he hbe)
        have hslot : ∀ (v' : Value) s, d.x.dst ≠ some s → (a.put d.x.dst v').tmps[s]? = a.tmps[s]? := by
          intro v' s hs
          cases hdd : d.x.dst with
          | none => rfl
          | some k =>
            rw [hdd] at hs
            simp only [Act.put]
            rw [Array.getElem?_setIfInBounds_ne (fun x => hs (by rw [x]))]
        have hself : ∀ (v' : Value) s, d.x.dst = some s → (a.put d.x.dst v').tmps[s]? = some v' := by
          intro v' s hs
          rw [hs]
          have hsN : s < a.tmps.size := Nat.lt_of_lt_of_le (dd2 s (by rw [← dd1]; exact hs)) I.sz
          simp [Act.put, hsN]
        -- a slot that is written now: this is the last one
        have hlast : ∀ (s j : Nat) (e : XDop), ds[j]? = some e → (listed.setIfInBounds i true).getD j false = true → e.x.dst = some s → d.x.dst = some s → (∀ (k : Nat) (ek : XDop), ds[k]? = some ek → (listed.setIfInBounds i true).getD k false = true → ek.x.dst = some s → k ≤ j) → j = i := by
          intro s j e hj hjl hes hsi hmax
          by_cases hne : j = i
          · exact hne
          · exfalso
            have hjl' : listed.getD j false = true := by rwa [getD_set_ne false (fun x => hne x.symm)] at hjl
            have hb := bit j (((pairOk_spec hpair hd hj (fun x => hne x.symm)).2.1 s hes).2 hsi) hne
            have := hmax i d hd (by simp [hil]) hsi
            rw [hb.2 (by omega)] at hjl'; simp at hjl'
        by_cases hk3 : d.kind = 3
        · -- a block is made, perhaps early
          have hti : t ≤ i := by
            rcases Nat.lt_or_ge i t with h' | h'
            · rw [I.te3 i d hd hk3 h'] at hno; cases hno
            · exact h'
          obtain ⟨blk, b1, b2, b3, b4, hrun⟩ := alloc_wpOp ho hco (by rw [← hkind]; exact hk3) r1 I.hr hfr Q
          refine wpOp_mono ?_ hrun
          rintro a' w' ⟨v', c, ty, cs', rfl, rfl, k1, k2, k3⟩
          have hg := Fut.garbage m (h t) w c ty
          have hpend : PendAt base w0 m (h t) { w with heap := w.heap.push (.cells c ty (0, 0)) } blk (h i).n (v i) v' w.heap.size := by
            refine ⟨c, ty, cs', by simp, I.fut.size, I.hr.bs, ?_, k1, k2, k3⟩
            rintro (⟨B, b, e, q1, q2, q3⟩ | hB)
            · have := I.hr.b_lt q1 q2
              omega
            · have := I.hr.objlt hB
              omega
          have hpre : DPre P base W0 N ops ds f h v m0 w0 (fun j => if j = i then w.heap.size else kap j) (fun j => if j = i then v' else nu j) (listed.setIfInBounds i true) (a.put o.dst v') { w with heap := w.heap.push (.cells c ty (0, 0)) } m t := by
            rw [← dd1]
            refine { hr := HRel.garbage I.hr c ty, fut := I.fut.trans hg, df := by rw [put_defers]; exact I.df, sz := by rw [put_size]; exact I.sz, lsz := by simpa using I.lsz, closed := hclosed, tn := I.tn, te := ?_, te3 := ?_, ts := I.ts, fa := ?_, fb := ?_, pend := ?_, pslot := ?_, inj := ?_ }
            · intro j e he hke
              have hji : j ≠ i := fun x => by subst x; rw [hd] at he; cases he; omega
              rw [getD_set_ne false (fun x => hji x.symm)]
              exact I.te j e he hke
            · intro j e he hke hlt
              exact getD_set_true (I.te3 j e he hke hlt)
            · intro s hs u hu
              have hsi : d.x.dst ≠ some s := hs i d hd (by simp [hil])
              rw [hslot _ s hsi]
              exact I.fa s (fun j e hj hjl => hs j e hj (getD_set_true hjl)) u hu
            · intro s j e hj hjl hes hlt hmax u hu
              by_cases hsi : d.x.dst = some s
              · have hji := hlast s j e hj hjl hes hsi hmax
                subst hji
                rw [hd] at hj; cases hj
                have := hlt hk3
                omega
              · have hji : j ≠ i := fun x => by subst x; rw [hd] at hj; cases hj; exact hsi hes
                rw [hslot _ s hsi]
                exact I.fb s j e hj (by rwa [getD_set_ne false (fun x => hji x.symm)] at hjl) hes hlt (fun k ek hk hkl hks => hmax k ek hk (getD_set_true hkl) hks) u hu
            · intro j e he hke hjl htj
              by_cases hji : j = i
              · subst hji
                rw [hd] at he; cases he
                simp only [if_true]
                exact ⟨blk, b1, b2, b3, b4, hpend⟩
              · simp only [if_neg hji]
                obtain ⟨bk, c1, c2, c3, c4, hp⟩ := I.pend j e he hke (by rwa [getD_set_ne false (fun x => hji x.symm)] at hjl) htj
                exact ⟨bk, c1, c2, c3, c4, hp.fut hg⟩
            · intro s j e he hke hjl htj hes hmax
              by_cases hji : j = i
              · subst hji
                rw [hd] at he; cases he
                simp only [if_true]
                exact hself v' s hes
              · simp only [if_neg hji]
                have hsi : d.x.dst ≠ some s := fun hsi => hji (hlast s j e he hjl hes hsi hmax)
                rw [hslot _ s hsi]
                exact I.pslot s j e he hke (by rwa [getD_set_ne false (fun x => hji x.symm)] at hjl) htj hes (fun k ek hk hkl hks => hmax k ek hk (getD_set_true hkl) hks)
            · intro j j' e e' he he' hke hke' hjl hjl' htj htj' hne
              have klt : ∀ (q : Nat) (eq : XDop), ds[q]? = some eq → eq.kind = 3 → (listed.setIfInBounds i true).getD q false = true → t ≤ q → q ≠ i → kap q < w.heap.size := by
                intro q eq hq hkq hql htq hqi
                obtain ⟨bk, c1, c2, c3, c4, hp⟩ := I.pend q eq hq hkq (by rwa [getD_set_ne false (fun x => hqi x.symm)] at hql) htq
                exact hp.lt
              by_cases hji : j = i
              · have hji' : j' ≠ i := fun x => hne (by rw [hji, x])
                have := klt j' e' he' hke' hjl' htj' hji'
                simp only [if_pos hji, if_neg hji']
                omega
              · by_cases hji' : j' = i
                · have := klt j e he hke hjl htj hji
                  simp only [if_neg hji, if_pos hji']
                  omega
                · simp only [if_neg hji, if_neg hji']
                  exact I.inj j j' e e' he he' hke hke' (by rwa [getD_set_ne false (fun x => hji x.symm)] at hjl) (by rwa [getD_set_ne false (fun x => hji' x.symm)] at hjl') htj htj' hne
          obtain ⟨m2, t2', I2, L2⟩ := settle (fun k d hd => (t5' k d hd).2.1) hconst (fun k d hd hk => by rcases hk23 k d hd with q | q | q | q <;> omega) _ t m (Nat.le_refl _) hpre
          exact ih _ _ _ _ _ _ _ I2 L2 hcount
        · -- the value and the heap at the stage at hand
          have hval : ∃ t', xval P call d.x ((f i).keep d.rd) (h t) = some (v i, h t') ∧ t ≤ t' ∧ t' ≤ ds.length ∧ (∀ (j : Nat) (e : XDop), ds[j]? = some e → e.kind = 2 → ((listed.setIfInBounds i true).getD j false = true ↔ j < t')) ∧
              (∀ (j : Nat) (e : XDop), ds[j]? = some e → e.kind = 3 → j < t' → (listed.setIfInBounds i true).getD j false = true) ∧
              (t' = 0 ∨ ∃ (j : Nat) (e : XDop), ds[j]? = some e ∧ 2 ≤ e.kind ∧ t' = j + 1) ∧
              (∀ (j : Nat) (e : XDop), ds[j]? = some e → e.kind = 3 → listed.getD j false = true → j < t' → j < t) := by
            have same : d.kind ≠ 2 → ∀ (j : Nat) (e : XDop), ds[j]? = some e → e.kind = 2 → ((listed.setIfInBounds i true).getD j false = true ↔ j < t) := by
              intro hk j e he hke
              have hji : j ≠ i := fun x => by subst x; rw [hd] at he; cases he; exact hk hke
              rw [getD_set_ne false (fun x => hji x.symm)]
              exact I.te j e he hke
            have same3 : ∀ (j : Nat) (e : XDop), ds[j]? = some e → e.kind = 3 → j < t → (listed.setIfInBounds i true).getD j false = true := fun j e he hke hlt => getD_set_true (I.te3 j e he hke hlt)
            rcases kindX_le d.x with kk | kk | kk | kk
            · have hk2 : d.kind ≠ 2 := by rw [hkind, kk]; simp
              exact ⟨t, (xval_pure (kindX_of kk (by omega)) r1 (h t)).2, Nat.le_refl _, I.tn, same hk2, same3, I.ts, fun _ _ _ _ _ x => x⟩
            · have hk1 : d.kind = 1 := by rw [hkind, kk]
              have hk2 : d.kind ≠ 2 := by rw [hk1]; simp
              have kk := kindX_of kk (by omega)
              refine ⟨t, ?_, Nat.le_refl _, I.tn, same hk2, same3, I.ts, fun _ _ _ _ _ x => x⟩
              by_cases hown : ownSt ks i t = true
              · -- no effect between
                unfold ownSt at hown
                simp only [Bool.and_eq_true, Nat.ble_eq] at hown
                have : h i = h t := hconst i t hown.1 (Nat.le_of_lt hin) fun k e a1 a2 he => by
                  have := List.all_eq_true.1 hown.2 k (List.mem_range.2 a2)
                  simp only [Bool.or_eq_true] at this
                  rcases this with h' | h'
                  · have := natlt h'; omega
                  · intro hke
                    obtain ⟨_, _, _, _, _, g⟩ := hds k e he
                    rw [g] at h'
                    have e1 : Nat.ble 2 e.kind = true := by rw [Nat.ble_eq]; omega
                    rw [e1] at h'; simp at h'
                rw [← this]
                have hrd := xval_read kk r1
                rw [hrd] at r1; exact r1
              · have hmem : t ∈ stabList ms ks i := by
                  unfold stabList
                  rw [List.mem_filter]
                  constructor
                  · unfold stages
                    rcases I.ts with rfl | ⟨j, e, he, hke, rfl⟩
                    · simp
                    · refine List.mem_cons_of_mem _ (List.mem_map.2 ⟨j, List.mem_filter.2 ⟨List.mem_range.2 ?_, ?_⟩, rfl⟩)
                      · rw [hkl]; exact (List.getElem?_eq_some_iff.1 he).1
                      · obtain ⟨_, _, _, _, _, g⟩ := hds j e he
                        rw [g, Nat.ble_eq]; omega
                  · simp only [Bool.and_eq_true, List.all_eq_true, List.mem_range]
                    refine ⟨by simpa using hown, fun j hj => ?_⟩
                    obtain ⟨e, he, hke⟩ := hks j (by rw [← hkl]; exact hj)
                    refine ⟨?_, ?_⟩
                    rotate_left
                    · unfold madeOk
                      rw [Bool.not_eq_true', Bool.eq_false_iff]
                      intro hmade
                      simp only [Bool.and_eq_true, List.all_eq_true, List.mem_range] at hmade
                      obtain ⟨⟨⟨m1, m2⟩, m3⟩, m4⟩ := hmade
                      rw [hke] at m1
                      have hlj := mask_closed hdep (fun k => listed.getD k false = true) I.closed i o ho hedge j m2
                      obtain ⟨j', d', x1, x2, x3, x4, x5⟩ := hlate j e he (Nat.eq_of_beq_eq_true m1) hlj (Nat.le_of_ble_eq_true m3)
                      have hj' := m4 j' x2
                      obtain ⟨_, _, _, _, _, g⟩ := hds j' d' x3
                      rw [g, show Nat.ble 2 d'.kind = true by rw [Nat.ble_eq]; exact x4] at hj'
                      simp only [Bool.not_true, Bool.false_or] at hj'
                      have := mask_closed hdep (fun k => listed.getD k false = true) I.closed i o ho hedge j' hj'
                      rw [x5] at this; cases this
                    rw [hke]
                    constructor
                    · by_cases hk2' : e.kind = 2
                      · simp only [hk2', Bool.or_eq_true, Bool.not_eq_true']
                        right
                        cases hb : (ms.getD i 0).testBit j
                        · exact .inl rfl
                        · right
                          have hexj := mask_closed hdep (fun k => listed.getD k false = true) I.closed i o ho hedge j hb
                          have := (I.te j e he hk2').1 hexj
                          simp [Nat.blt]; omega
                      · have : Nat.beq e.kind 2 = false := by rw [Tr.beq_eq]; simp [hk2']
                        rw [this]; simp
                    · cases hb2 : Nat.ble 2 e.kind
                      · simp
                      · simp only [Bool.not_true, Bool.false_or, Bool.or_eq_true, Bool.not_eq_true']
                        cases hb : (ms.getD j 0).testBit i
                        · exact .inl rfl
                        · right
                          cases hbl : Nat.blt j t
                          · rfl
                          · exfalso
                            have hexj : listed.getD j false = true := by
                              have h2 := Nat.le_of_ble_eq_true hb2
                              rcases hk23 j e he with q | q | q | q
                              · omega
                              · omega
                              · exact (I.te j e he q).2 (natlt hbl)
                              · exact I.te3 j e he q (natlt hbl)
                            have hjn : j < ops.size := by rw [← hlen, ← hkl]; exact hj
                            have := mask_closed hdep (fun k => listed.getD k false = true) I.closed j _ (Array.getElem?_eq_getElem hjn) (I.closed j _ hexj (Array.getElem?_eq_getElem hjn)) i hb
                            rw [hno] at this; simp at this
                have hst2 : d.stab = stabList ms ks i := by rw [hstb, hk1]; rfl
                have hne : d.stab ≠ [] := by rw [hst2]; intro x; rw [x] at hmem; cases hmem
                have hso := List.all_eq_true.1 hstab _ (r3 hne)
                unfold stabOk at hso
                have := List.all_eq_true.1 hso t (by simp only [hst2]; exact hmem)
                simp only at this
                split at this
                · rename_i Ht hHt
                  have hHt' : Ht = h t := by
                    rcases t6 _ (heapAt_mem _ _ _ hHt) with hp | ⟨k, e, _, _, hp⟩
                    · simp only [List.mem_singleton, Prod.mk.injEq] at hp
                      rw [hp.2, hp.1, ← t2]
                    · simp only [Prod.mk.injEq] at hp
                      rw [hp.2, hp.1]
                  subst hHt'
                  split at this
                  · rename_i rr hrr
                    have hv := veq_eq this
                    have h2 := xval_read kk hrr
                    rw [hrr, hv, ← h2]
                  · simp at this
                · simp at this
            · have hk2 : d.kind = 2 := by rw [hkind, kk]
              have hbt : ∀ (j : Nat) (e : XDop), ds[j]? = some e → e.kind = 2 → j ≠ i → (j < i → listed.getD j false = true) ∧ (i < j → listed.getD j false = false) := fun j e he hke hji =>
                bit j ((pairOk_spec hpair hd he (fun x => hji x.symm)).1 hk2 hke) hji
              have hbt3 : ∀ (j : Nat) (e : XDop), ds[j]? = some e → e.kind = 3 → j < i → listed.getD j false = true := fun j e he hke hji =>
                (bit j ((pairOk_spec hpair hd he (by omega)).2.2.1 hk2 hke hji) (by omega)).1 hji
              have heff : ∀ (j : Nat) (e : XDop), ds[j]? = some e → 2 ≤ e.kind → j < i → listed.getD j false = true := by
                intro j e he hke hji
                rcases hk23 j e he with q | q | q | q
                · omega
                · omega
                · exact (hbt j e he q (by omega)).1 hji
                · exact hbt3 j e he q hji
              have hti : t ≤ i := by
                rcases Nat.lt_or_ge i t with h' | h'
                · rw [(I.te i d hd hk2).2 h'] at hno; cases hno
                · exact h'
              have hhi : h i = h t := hconst i t hti (Nat.le_of_lt hin) fun k e a1 a2 he hke => by
                have hlk := heff k e he hke a2
                rcases hk23 k e he with q | q | q | q
                · omega
                · omega
                · have := (I.te k e he q).1 hlk; omega
                · obtain ⟨j', d', x1, x2, x3, x4, x5⟩ := hlate k e he q hlk a1
                  rw [heff j' d' x3 x4 (by omega)] at x5; cases x5
              refine ⟨i + 1, by rw [← hhi]; exact r1, by omega, hin, fun j e he hke => ?_, fun j e he hke hlt => ?_, .inr ⟨i, d, hd, by omega, rfl⟩, fun j e he hke hjl hlt => ?_⟩
              · by_cases hji : j = i
                · subst hji
                  simp [hil]
                · rw [getD_set_ne false (fun x => hji x.symm)]
                  rcases Nat.lt_or_ge j i with h' | h'
                  · exact ⟨fun _ => by omega, fun _ => (hbt j e he hke hji).1 h'⟩
                  · exact ⟨fun hx => by rw [(hbt j e he hke hji).2 (by omega)] at hx; simp at hx, fun hx => by omega⟩
              · by_cases hji : j = i
                · subst hji; simp [hil]
                · exact getD_set_true (hbt3 j e he hke (by omega))
              · rcases Nat.lt_or_ge j t with h' | h'
                · exact h'
                · exfalso
                  have hji : j ≠ i := fun x => by subst x; rw [hno] at hjl; cases hjl
                  obtain ⟨j', d', x1, x2, x3, x4, x5⟩ := hlate j e he hke hjl h'
                  rw [heff j' d' x3 x4 (by omega)] at x5; cases x5
            · exact absurd (by rw [hkind, kk]) hk3
          obtain ⟨t', hxv, htt, htn, hte, hte3, hts, htl⟩ := hval
          refine wpOp_mono ?_ (xval_wpOp hcall ho hco hxv I.hr hfr Q)
          rintro a' w' ⟨m', v', rfl, k1, k2, k3⟩
          have hpre : DPre P base W0 N ops ds f h v m0 w0 kap nu (listed.setIfInBounds i true) (a.put o.dst v') w' m' t' := by
            rw [← dd1]
            refine { hr := k1, fut := I.fut.trans k2, df := by rw [put_defers]; exact I.df, sz := by rw [put_size]; exact I.sz, lsz := by simpa using I.lsz, closed := hclosed, tn := htn, te := hte, te3 := hte3, ts := hts, fa := ?_, fb := ?_, pend := ?_, pslot := ?_, inj := ?_ }
            · intro s hs u hu
              have hsi : d.x.dst ≠ some s := hs i d hd (by simp [hil])
              rw [hslot _ s hsi]
              obtain ⟨v', g1, g2⟩ := I.fa s (fun j e hj hjl => hs j e hj (getD_set_true hjl)) u hu
              exact ⟨v', g1, g2.mono k2.ext⟩
            · intro s j e hj hjl hes hlt hmax u hu
              by_cases hsi : d.x.dst = some s
              · have hji := hlast s j e hj hjl hes hsi hmax
                subst hji
                rw [hd] at hj; cases hj
                rw [r2, Fr.get_put?, if_pos hsi] at hu
                cases hu
                exact ⟨v', hself v' s hsi, k3⟩
              · have hji : j ≠ i := fun x => by subst x; rw [hd] at hj; cases hj; exact hsi hes
                rw [hslot _ s hsi]
                have hjl' : listed.getD j false = true := by rwa [getD_set_ne false (fun x => hji x.symm)] at hjl
                obtain ⟨v', g1, g2⟩ := I.fb s j e hj hjl' hes (fun hke => htl j e hj hke hjl' (hlt hke)) (fun k ek hk hkl hks => hmax k ek hk (getD_set_true hkl) hks) u hu
                exact ⟨v', g1, g2.mono k2.ext⟩
            · intro j e he hke hjl htj
              have hji : j ≠ i := fun x => by subst x; rw [hd] at he; cases he; exact hk3 hke
              obtain ⟨bk, c1, c2, c3, c4, hp⟩ := I.pend j e he hke (by rwa [getD_set_ne false (fun x => hji x.symm)] at hjl) (by omega)
              exact ⟨bk, c1, c2, c3, c4, hp.fut k2⟩
            · intro s j e he hke hjl htj hes hmax
              have hji : j ≠ i := fun x => by subst x; rw [hd] at he; cases he; exact hk3 hke
              have hsi : d.x.dst ≠ some s := fun hsi => hji (hlast s j e he hjl hes hsi hmax)
              rw [hslot _ s hsi]
              exact I.pslot s j e he hke (by rwa [getD_set_ne false (fun x => hji x.symm)] at hjl) (by omega) hes (fun k ek hk hkl hks => hmax k ek hk (getD_set_true hkl) hks)
            · intro j j' e e' he he' hke hke' hjl hjl' htj htj' hne
              have hji : j ≠ i := fun x => by subst x; rw [hd] at he; cases he; exact hk3 hke
              have hji' : j' ≠ i := fun x => by subst x; rw [hd] at he'; cases he'; exact hk3 hke'
              exact I.inj j j' e e' he he' hke hke' (by rwa [getD_set_ne false (fun x => hji x.symm)] at hjl) (by rwa [getD_set_ne false (fun x => hji' x.symm)] at hjl') (by omega) (by omega) hne
          obtain ⟨m2, t2', I2, L2⟩ := settle (fun k d hd => (t5' k d hd).2.1) hconst (fun k d hd hk => by rcases hk23 k d hd with q | q | q | q <;> omega) _ t' m' (Nat.le_refl _) hpre
          exact ih _ _ _ _ _ _ _ I2 L2 hcount
  have norep : ∀ k, ¬ (Array.replicate ops.size false).getD k false = true := by
    intro k hk
    by_cases hks : k < ops.size
    · simp [Array.getD, hks] at hk
    · simp [Array.getD, hks] at hk
  refine main ops.size (fun _ => 0) (fun _ => undef) _ a0 w0 m0 0 ?_ ?_ (by simp)
  · refine { hr := by rw [t2]; exact hst.hr, fut := by rw [t2]; exact .refl m0 H w0, df := hst.df, sz := hst.sz, lsz := by simp [hlen], closed := ?_, tn := Nat.zero_le _, te := ?_, te3 := fun j d _ _ hj => by omega, ts := .inl rfl, fa := ?_, fb := ?_, pend := ?_, pslot := ?_, inj := ?_ }
    · intro k o hk
      exact absurd hk (norep k)
    · intro j d hd _
      exact ⟨fun hk => absurd hk (norep j), fun hx => by omega⟩
    · intro s _ u hu
      rw [t1] at hu
      exact hst.fr s u hu
    · intro s i d _ hk
      exact absurd hk (norep i)
    · intro j d _ _ hk
      exact absurd hk (norep j)
    · intro s j d _ _ hk
      exact absurd hk (norep j)
    · intro j j' d d' _ _ _ _ hk
      exact absurd hk (norep j)
  · intro j d _ _ hk
    exact absurd hk (norep j)

end Go.Det

set_option linter.unusedSimpArgs false
set_option linter.unusedVariables false
namespace Go.Det

/-! ### regions in another order -/
def posOf (s : List Nat) (j : Nat) : Nat := s.idxOf j
def renO (s : List Nat) (o : Oper) : Oper := { o with after := o.after.map fun e => { e with on := posOf s e.on }, guard := o.guard.map fun g => (posOf s g.1, g.2) }
def permOps (s : List Nat) (ops : Array Oper) : Array Oper := ((List.range ops.size).map fun k => renO s (ops.getD (s.getD k ops.size) default)).toArray
def permOk (s : List Nat) (n : Nat) : Bool :=
  Nat.beq s.length n && (List.range n).all (fun k => Nat.blt (s.getD k n) n && Nat.beq (posOf s (s.getD k n)) k) && (List.range n).all fun i => Nat.blt (posOf s i) n && Nat.beq (s.getD (posOf s i) n) i
/-- effects as early as their data allow, all else behind them -/
def sched (ms ks : List Nat) (n : Nat) : List Nat :=
  let order := ((List.range n).filter fun i => Nat.beq (ks.getD i 0) 2).foldl (fun acc e => acc ++ (List.range n).filter fun j => (Nat.beq j e || (ms.getD e 0).testBit j) && !(acc.contains j)) []
  order ++ (List.range n).filter fun j => !(order.contains j)
def cDopsP (P : Program) (N : Nat) (ops : Array Oper) : Option (List XDop) :=
  match cDops P N ops with
  | some ds => some ds
  | none => match cOpers P N ops ops.toList with
    | none => none
    | some xs => bif permOk (sched (masks ops.toList []) (xs.map fun x => kindX x) ops.size) ops.size then cDops P N (permOps (sched (masks ops.toList []) (xs.map fun x => kindX x) ops.size) ops) else none
section
variable {s : List Nat} {ops : Array Oper}
theorem permOk_len (h : permOk s ops.size = true) : s.length = ops.size := by
  unfold permOk at h
  simp only [Bool.and_eq_true] at h
  exact Nat.eq_of_beq_eq_true h.1.1
theorem permOk_a (h : permOk s ops.size = true) (k : Nat) (hk : k < ops.size) : s.getD k ops.size < ops.size ∧ posOf s (s.getD k ops.size) = k := by
  unfold permOk at h
  simp only [Bool.and_eq_true] at h
  have := List.all_eq_true.1 h.1.2 k (List.mem_range.2 hk)
  simp only [Bool.and_eq_true] at this
  exact ⟨by simpa [Nat.blt_eq] using this.1, Nat.eq_of_beq_eq_true this.2⟩
theorem permOk_b (h : permOk s ops.size = true) (i : Nat) (hi : i < ops.size) : posOf s i < ops.size ∧ s.getD (posOf s i) ops.size = i := by
  unfold permOk at h
  simp only [Bool.and_eq_true] at h
  have := List.all_eq_true.1 h.2 i (List.mem_range.2 hi)
  simp only [Bool.and_eq_true] at this
  exact ⟨by simpa [Nat.blt_eq] using this.1, Nat.eq_of_beq_eq_true this.2⟩
theorem permOk_c (h : permOk s ops.size = true) (i : Nat) (hi : ops.size ≤ i) : ops.size ≤ posOf s i := by
  have hni : i ∉ s := by
    intro hm
    obtain ⟨k, hk, e⟩ := List.getElem_of_mem hm
    have hk' : k < ops.size := by rw [← permOk_len h]; exact hk
    have := (permOk_a h k hk').1
    rw [List.getD_eq_getElem?_getD, List.getElem?_eq_getElem hk] at this
    simp only [Option.getD_some, e] at this
    omega
  have : posOf s i = s.length := List.idxOf_eq_length hni
  rw [this, permOk_len h]; exact Nat.le_refl _
theorem permOps_size : (permOps s ops).size = ops.size := by simp [permOps]
theorem permOps_get (k : Nat) (hk : k < ops.size) (o : Oper) (ho : ops[s.getD k ops.size]? = some o) : (permOps s ops)[k]? = some (renO s o) := by
  unfold permOps
  simp only [List.getElem?_toArray, List.getElem?_map, List.getElem?_range hk, Option.map_some, Option.some.injEq]
  congr 1
  rw [Array.getD_eq_getD_getElem?, ho]; rfl
theorem renO_wp (o : Oper) (P : Program) (a : Act) (w : World) (K : Act → World → Prop) (Q : Exit → Act → World → Prop) : (renO s o).wp P a w K Q = o.wp P a w K Q := rfl
theorem renO_asks (o : Oper) (P : Program) (a : Act) (w : World) : (renO s o).asks P a w = o.asks P a w := rfl
theorem renO_dst (o : Oper) : (renO s o).dst = o.dst := rfl
theorem permOps_yield (h : permOk s ops.size = true) (tmps : Array Value) (j : Nat) : yielded (permOps s ops) tmps (posOf s j) = yielded ops tmps j := by
  unfold yielded
  by_cases hj : j < ops.size
  · obtain ⟨b1, b2⟩ := permOk_b h j hj
    obtain ⟨o, ho⟩ : ∃ o, ops[j]? = some o := ⟨_, Array.getElem?_eq_getElem hj⟩
    rw [permOps_get (posOf s j) b1 o (by rw [b2]; exact ho), ho]
    rfl
  · have hc := permOk_c h j (by omega)
    rw [Array.getElem?_eq_none (by rw [permOps_size]; exact hc), Array.getElem?_eq_none (by omega)]
theorem permOps_wanted (h : permOk s ops.size = true) (o : Oper) (tmps : Array Value) : Region.wanted (renO s o) (yielded (permOps s ops) tmps) = Region.wanted o (yielded ops tmps) := by
  unfold Region.wanted
  cases hg : o.guard with
  | none => simp [renO, hg]
  | some g => simp only [renO, hg, Option.map_some, permOps_yield h]
theorem wpAny_perm {P : Program} {md : Region.Mode} {Q : Exit → Act → World → Prop} (h : permOk s ops.size = true) : ∀ (fuel : Nat) (listed listed' : Array Bool) (a : Act) (w : World), listed.size = ops.size → listed'.size = ops.size →
    (∀ i, i < ops.size → listed'.getD (posOf s i) true = listed.getD i true) → wpAny P md (permOps s ops) Q fuel listed' a w → wpAny P md ops Q fuel listed a w := by
  intro fuel
  have same : ∀ (listed listed' : Array Bool), listed.size = ops.size → listed'.size = ops.size → (∀ i, i < ops.size → listed'.getD (posOf s i) true = listed.getD i true) → ∀ i, i ∈ Region.ready md ops listed ↔ i < ops.size ∧ posOf s i ∈ Region.ready md (permOps s ops) listed' := by
    intro listed listed' hs1 hs2 hl i
    have hf : ∀ j, listed'.getD (posOf s j) false = listed.getD j false := by
      intro j
      by_cases hj : j < ops.size
      · have e := hl j hj
        have b := (permOk_b h j hj).1
        rw [Array.getD_eq_getD_getElem?, Array.getD_eq_getD_getElem?, Array.getElem?_eq_getElem (by omega), Array.getElem?_eq_getElem (by omega)] at e ⊢
        exact e
      · have hc := permOk_c h j (by omega)
        rw [Array.getD_eq_getD_getElem?, Array.getD_eq_getD_getElem?, Array.getElem?_eq_none (by omega), Array.getElem?_eq_none (by omega)]
    have hb : ∀ e : Edge, Region.binds md { on := posOf s e.on, ground := e.ground } = Region.binds md e := fun e => rfl
    have hf' : ∀ j, listed'[posOf s j]?.getD false = listed[j]?.getD false := fun j => by simpa using hf j
    unfold Region.ready
    rw [List.mem_filter, List.mem_filter, List.mem_range, List.mem_range, permOps_size]
    constructor
    · rintro ⟨hi, hr⟩
      obtain ⟨b1, b2⟩ := permOk_b h i hi
      refine ⟨hi, b1, ?_⟩
      obtain ⟨o, ho⟩ : ∃ o, ops[i]? = some o := ⟨_, Array.getElem?_eq_getElem hi⟩
      rw [permOps_get (posOf s i) b1 o (by rw [b2]; exact ho), hl i hi]
      rw [ho] at hr
      simp only [Option.map_some, Option.getD_some, Bool.and_eq_true] at hr ⊢
      refine ⟨hr.1, ?_⟩
      have h2 := hr.2
      simp only [renO]
      rw [Array.all_map]
      simpa [Function.comp_def, hf', hb] using h2
    · rintro ⟨hi, _, hr⟩
      obtain ⟨b1, b2⟩ := permOk_b h i hi
      refine ⟨hi, ?_⟩
      obtain ⟨o, ho⟩ : ∃ o, ops[i]? = some o := ⟨_, Array.getElem?_eq_getElem hi⟩
      rw [permOps_get (posOf s i) b1 o (by rw [b2]; exact ho), hl i hi] at hr
      rw [ho]
      simp only [Option.map_some, Option.getD_some, Bool.and_eq_true] at hr ⊢
      refine ⟨hr.1, ?_⟩
      have h2 := hr.2
      simp only [renO] at h2
      rw [Array.all_map] at h2
      simpa [Function.comp_def, hf', hb] using h2
  have nilEq : ∀ (listed listed' : Array Bool), listed.size = ops.size → listed'.size = ops.size → (∀ i, i < ops.size → listed'.getD (posOf s i) true = listed.getD i true) → Region.ready md ops listed = [] → Region.ready md (permOps s ops) listed' = [] := by
    intro listed listed' hs1 hs2 hl he
    rw [List.eq_nil_iff_forall_not_mem]
    intro k hk
    have hk2 : k < ops.size := by
      have := (List.mem_filter.1 hk).1
      rw [List.mem_range, permOps_size] at this
      exact this
    obtain ⟨a1, a2⟩ := permOk_a h k hk2
    have := (same listed listed' hs1 hs2 hl (s.getD k ops.size)).2 ⟨a1, by rw [a2]; exact hk⟩
    rw [he] at this
    exact absurd this (by simp)
  induction fuel with
  | zero =>
    intro listed listed' a w hs1 hs2 hl hw
    obtain ⟨h1, h2⟩ := hw
    refine ⟨?_, h2⟩
    rw [List.eq_nil_iff_forall_not_mem]
    intro i hi
    have := ((same listed listed' hs1 hs2 hl i).1 hi).2
    rw [h1] at this
    exact absurd this (by simp)
  | succ fuel ih =>
    intro listed listed' a w hs1 hs2 hl hw
    obtain ⟨h1, h2⟩ := hw
    refine ⟨fun he => h1 (nilEq listed listed' hs1 hs2 hl he), fun i hi => ?_⟩
    obtain ⟨hin, hk⟩ := (same listed listed' hs1 hs2 hl i).1 hi
    obtain ⟨b1, b2⟩ := permOk_b h i hin
    obtain ⟨o, ho⟩ : ∃ o, ops[i]? = some o := ⟨_, Array.getElem?_eq_getElem hin⟩
    have h3 := h2 _ hk
    have next : ∀ a w, wpAny P md (permOps s ops) Q fuel (listed'.setIfInBounds (posOf s i) true) a w → wpAny P md ops Q fuel (listed.setIfInBounds i true) a w := by
      intro a w
      refine ih _ _ a w (by simpa using hs1) (by simpa using hs2) fun j hj => ?_
      have e := hl j hj
      have bj := permOk_b h j hj
      by_cases hji : j = i
      · subst hji
        rw [Array.getD_eq_getD_getElem?, Array.getD_eq_getD_getElem?, Array.getElem?_setIfInBounds_self_of_lt (by omega), Array.getElem?_setIfInBounds_self_of_lt (by omega)]
      · have hpj : posOf s i ≠ posOf s j := fun e => hji (by rw [← bj.2, ← e, b2])
        rw [Array.getD_eq_getD_getElem?, Array.getD_eq_getD_getElem?, Array.getElem?_setIfInBounds_ne hpj, Array.getElem?_setIfInBounds_ne (fun e => hji e.symm)]
        rw [Array.getD_eq_getD_getElem?, Array.getD_eq_getD_getElem?] at e
        exact e
    unfold wpOp at h3 ⊢
    rw [permOps_get (posOf s i) b1 o (by rw [b2]; exact ho)] at h3
    rw [ho]
    simp only [permOps_wanted h, renO_wp, renO_asks, renO_dst] at h3 ⊢
    split
    · rename_i hwd
      rw [if_pos hwd] at h3
      rcases h3 with h3 | h3
      · exact .inl (Oper.wp_mono next h3)
      · exact .inr h3
    · rename_i hwd
      rw [if_neg hwd] at h3
      exact next _ _ h3
end

/-! ### a region in two classes of orders: those in which a comes ahead of b, and those in which b comes ahead of a -/
def addEdge (a b : Nat) (ops : Array Oper) : Array Oper := ops.modify b fun o => { o with after := o.after.push ⟨a, .data⟩ }
theorem addEdge_size (a b : Nat) (ops : Array Oper) : (addEdge a b ops).size = ops.size := by simp [addEdge]
theorem addEdge_get (a b : Nat) (ops : Array Oper) (i : Nat) : (addEdge a b ops)[i]? = (ops[i]?).map fun o => if b = i then { o with after := o.after.push ⟨a, .data⟩ } else o := by
  unfold addEdge
  rw [Array.getElem?_modify]
  by_cases h : b = i
  · simp only [if_pos h]
  · simp only [if_neg h]; cases ops[i]? <;> rfl
def Ord (md : Region.Mode) (ops : Array Oper) : Nat → Array Bool → List Nat → Prop
  | 0, _, l => l = []
  | fuel + 1, listed, l => (Region.ready md ops listed = [] ∧ l = []) ∨ ∃ i r, l = i :: r ∧ i ∈ Region.ready md ops listed ∧ Ord md ops fuel (listed.setIfInBounds i true) r
theorem ord_lin (md : Region.Mode) (ops : Array Oper) : ∀ (fuel t : Nat) (listed : Array Bool), Ord md ops fuel listed (Region.linearise.go md ops fuel t listed []) := by
  intro fuel
  induction fuel with
  | zero => intro t listed; simp [Region.linearise.go, Ord]
  | succ fuel ih =>
    intro t listed
    simp only [Region.linearise.go]
    change Ord md ops (fuel + 1) listed (match (Region.ready md ops listed)[t % (Region.ready md ops listed).length]? with
      | some i => Region.linearise.go md ops fuel (t / (Region.ready md ops listed).length) (listed.setIfInBounds i true) [i]
      | none => [].reverse)
    cases hi : (Region.ready md ops listed)[t % (Region.ready md ops listed).length]? with
    | none =>
      refine .inl ⟨?_, rfl⟩
      cases hr : Region.ready md ops listed with
      | nil => rfl
      | cons x xs =>
        rw [hr] at hi
        have hlt : t % (x :: xs).length < (x :: xs).length := Nat.mod_lt _ (by simp)
        rw [List.getElem?_eq_getElem hlt] at hi
        cases hi
    | some i =>
      simp only []
      rw [linearise_go_acc, List.reverse_singleton, List.singleton_append]
      exact .inr ⟨i, _, rfl, List.mem_of_getElem? hi, ih _ _⟩
theorem ord_any {P : Program} {md : Region.Mode} {ops : Array Oper} {Q : Exit → Act → World → Prop} : ∀ (fuel : Nat) (listed : Array Bool) (l : List Nat) (a : Act) (w : World), Ord md ops fuel listed l → wpAny P md ops Q fuel listed a w → wpOps P ops Q l a w
  | 0, listed, l, a, w, ho, h => by
    obtain rfl : l = [] := ho
    exact h.2
  | fuel + 1, listed, l, a, w, ho, h => by
    rcases ho with ⟨h1, rfl⟩ | ⟨i, r, rfl, h1, h2⟩
    · exact h.1 h1
    · rw [wpOps_cons]
      exact wpOp_mono (fun a' w' => ord_any fuel _ r a' w' h2) (h.2 i h1)
theorem addEdge_ready (a b : Nat) (ops : Array Oper) (listed : Array Bool) (i : Nat) : i ∈ Region.ready .any (addEdge a b ops) listed ↔ i ∈ Region.ready .any ops listed ∧ (b = i → listed.getD a false = true) := by
  unfold Region.ready
  rw [List.mem_filter, List.mem_filter, List.mem_range, List.mem_range, addEdge_size, addEdge_get]
  cases ho : ops[i]? with
  | none => simp
  | some o =>
    by_cases hb : b = i
    · have hbd : Region.binds .any (⟨a, .data⟩ : Edge) = true := rfl
      simp only [Option.map_some, if_pos hb, Option.getD_some, Array.all_push, hbd, Bool.not_true, Bool.false_or, Bool.and_eq_true]
      constructor
      · rintro ⟨h1, h2, h3, h4⟩
        exact ⟨⟨h1, h2, h3⟩, fun _ => h4⟩
      · rintro ⟨⟨h1, h2, h3⟩, h4⟩
        exact ⟨h1, h2, h3, h4 hb⟩
    · simp only [Option.map_some, if_neg hb, Option.getD_some]
      exact ⟨fun h => ⟨h, fun e => absurd e hb⟩, fun h => h.1⟩
theorem getD_mono {listed : Array Bool} {a i : Nat} (h : listed.getD a false = true) : (listed.setIfInBounds i true).getD a false = true := by
  rw [Array.getD_eq_getD_getElem?] at h ⊢
  by_cases e : i = a
  · subst e
    by_cases hl : i < listed.size
    · rw [Array.getElem?_setIfInBounds_self_of_lt hl]; rfl
    · rw [Array.getElem?_eq_none (by omega)] at h; cases h
  · rw [Array.getElem?_setIfInBounds_ne e]; exact h
theorem ord_in (a b : Nat) (ops : Array Oper) : ∀ (fuel : Nat) (listed : Array Bool) (l : List Nat), listed.getD a false = true → Ord .any ops fuel listed l → Ord .any (addEdge a b ops) fuel listed l
  | 0, _, _, _, h => h
  | fuel + 1, listed, l, ha, h => by
    rcases h with ⟨h1, rfl⟩ | ⟨i, r, rfl, h1, h2⟩
    · refine .inl ⟨List.eq_nil_iff_forall_not_mem.2 fun i hi => ?_, rfl⟩
      have := ((addEdge_ready a b ops listed i).1 hi).1
      rw [h1] at this; cases this
    · exact .inr ⟨i, r, rfl, (addEdge_ready a b ops listed i).2 ⟨h1, fun _ => ha⟩, ord_in a b ops fuel _ r (getD_mono ha) h2⟩
theorem ready_listed {ops : Array Oper} {listed : Array Bool} {i : Nat} (h : i ∈ Region.ready .any ops listed) : (listed.setIfInBounds i true).getD i false = true := by
  unfold Region.ready at h
  rw [List.mem_filter] at h
  have h2 := h.2
  simp only [Bool.and_eq_true, Bool.not_eq_true'] at h2
  have h3 := h2.1
  have hl : i < listed.size := by
    rcases Nat.lt_or_ge i listed.size with h' | h'
    · exact h'
    · rw [Array.getD_eq_getD_getElem?, Array.getElem?_eq_none h'] at h3; cases h3
  rw [Array.getD_eq_getD_getElem?, Array.getElem?_setIfInBounds_self_of_lt hl]; rfl
theorem ord_split (a b : Nat) (hab : a ≠ b) (ops : Array Oper) : ∀ (fuel : Nat) (listed : Array Bool) (l : List Nat), Ord .any ops fuel listed l → Ord .any (addEdge a b ops) fuel listed l ∨ Ord .any (addEdge b a ops) fuel listed l
  | 0, _, _, h => .inl h
  | fuel + 1, listed, l, h => by
    rcases h with ⟨h1, rfl⟩ | ⟨i, r, rfl, h1, h2⟩
    · refine .inl (.inl ⟨List.eq_nil_iff_forall_not_mem.2 fun i hi => ?_, rfl⟩)
      have := ((addEdge_ready a b ops listed i).1 hi).1
      rw [h1] at this; cases this
    · by_cases ia : i = a
      · subst ia
        exact .inl (.inr ⟨i, r, rfl, (addEdge_ready i b ops listed i).2 ⟨h1, fun e => absurd e.symm hab⟩, ord_in i b ops fuel _ r (ready_listed h1) h2⟩)
      · by_cases ib : i = b
        · subst ib
          exact .inr (.inr ⟨i, r, rfl, (addEdge_ready i a ops listed i).2 ⟨h1, fun e => absurd e hab⟩, ord_in i a ops fuel _ r (ready_listed h1) h2⟩)
        · rcases ord_split a b hab ops fuel _ r h2 with h3 | h3
          · exact .inl (.inr ⟨i, r, rfl, (addEdge_ready a b ops listed i).2 ⟨h1, fun e => absurd e.symm ib⟩, h3⟩)
          · exact .inr (.inr ⟨i, r, rfl, (addEdge_ready b a ops listed i).2 ⟨h1, fun e => absurd e.symm ia⟩, h3⟩)
theorem wpOps_addEdge {P : Program} {Q : Exit → Act → World → Prop} (a b : Nat) (ops : Array Oper) : ∀ (l : List Nat) (c : Act) (w : World), wpOps P (addEdge a b ops) Q l c w → wpOps P ops Q l c w
  | [], c, w, h => h
  | i :: r, c, w, h => by
    have hy : ∀ tmps, yielded (addEdge a b ops) tmps = yielded ops tmps := by
      intro tmps
      funext j
      unfold yielded
      rw [addEdge_get]
      cases ops[j]? with
      | none => rfl
      | some o => by_cases hb : b = j <;> simp [hb]
    rw [wpOps_cons] at h ⊢
    unfold wpOp at h ⊢
    rw [addEdge_get] at h
    cases ho : ops[i]? with
    | none => rw [ho] at h; exact wpOps_addEdge a b ops r c w h
    | some o =>
      rw [ho] at h
      have same : ∀ (o' : Oper), (o' = o ∨ o' = { o with after := o.after.push ⟨a, .data⟩ }) → (if Region.wanted o' (yielded (addEdge a b ops) c.tmps) = true then o'.wp P c w (wpOps P (addEdge a b ops) Q r) Q ∨ (o'.asks P c w ∧ LetsOut Q) else wpOps P (addEdge a b ops) Q r (c.put o'.dst undef) w) →
          (if Region.wanted o (yielded ops c.tmps) = true then o.wp P c w (wpOps P ops Q r) Q ∨ (o.asks P c w ∧ LetsOut Q) else wpOps P ops Q r (c.put o.dst undef) w) := by
        intro o' ho' h
        rw [hy] at h
        have e1 : Region.wanted o' (yielded ops c.tmps) = Region.wanted o (yielded ops c.tmps) := by rcases ho' with rfl | rfl <;> rfl
        have e2 : o'.dst = o.dst := by rcases ho' with rfl | rfl <;> rfl
        have e3 : ∀ K, o'.wp P c w K Q = o.wp P c w K Q := by intro K; rcases ho' with rfl | rfl <;> rfl
        have e4 : o'.asks P c w = o.asks P c w := by rcases ho' with rfl | rfl <;> rfl
        rw [e1, e2, e4, e3] at h
        split
        · rename_i hw
          rw [if_pos hw] at h
          rcases h with h | h
          · exact .inl (Oper.wp_mono (fun c' w' => wpOps_addEdge a b ops r c' w') h)
          · exact .inr h
        · rename_i hw
          rw [if_neg hw] at h
          exact wpOps_addEdge a b ops r _ _ h
      refine same _ ?_ h
      by_cases hb : b = i
      · exact .inr (if_pos hb)
      · exact .inl (if_neg hb)
theorem wp_region_split {P : Program} {Q : Exit → Act → World → Prop} {ops : Array Oper} {id a b : Nat} (hab : a ≠ b) {c : Act} {w : World} (hm : P.follows .mixedOrders = true)
    (h1 : wpAny P .any (addEdge a b ops) Q ops.size (Array.replicate ops.size false) c { w with drawn := w.drawn + 1 }) (h2 : wpAny P .any (addEdge b a ops) Q ops.size (Array.replicate ops.size false) c { w with drawn := w.drawn + 1 }) : (Code.region id ops true).wp P Q c w :=
  wp_region_draw fun t => by
    simp only [Region.schedule, hm, Bool.true_or, if_true]
    rcases ord_split a b hab ops ops.size _ _ (ord_lin .any ops ops.size t (Array.replicate ops.size false)) with h | h
    · exact wpOps_addEdge a b ops _ _ _ (ord_any ops.size _ _ _ _ h h1)
    · exact wpOps_addEdge b a ops _ _ _ (ord_any ops.size _ _ _ _ h h2)

def altPairs (ms ks : List Nat) (n : Nat) : List (Nat × Nat) :=
  (List.range n).flatMap fun b => bif Nat.beq (ks.getD b 0) 2 then ((List.range b).filter fun a => Nat.ble (ks.getD a 0) 1 && !((ms.getD b 0).testBit a) && (List.range n).any fun j => Nat.beq (ks.getD j 0) 3 && (ms.getD a 0).testBit j).map fun a => (a, b) else []
def cAlt1 (P : Program) (N : Nat) (ops : Array Oper) (s : List Nat) (a b : Nat) : Option (List XDop × List XDop) :=
  match cDopsP P N (addEdge a b ops) with
  | some x => match cDops P N (permOps s (addEdge b a ops)) with
    | some y => bif Nat.beq a b then none else some (x, y)
    | none => none
  | none => none
def firstAlt (P : Program) (N : Nat) (ops : Array Oper) (s : List Nat) : List (Nat × Nat) → Option (List XDop × List XDop)
  | [] => none
  | p :: r => match cAlt1 P N ops s p.1 p.2 with
    | some z => some z
    | none => firstAlt P N ops s r
def cAlt (P : Program) (N : Nat) (ops : Array Oper) : Option (List XDop × List XDop) :=
  match cOpers P N ops ops.toList with
  | none => none
  | some xs => bif permOk (sched (masks ops.toList []) (xs.map fun x => kindX x) ops.size) ops.size then
      firstAlt P N ops (sched (masks ops.toList []) (xs.map fun x => kindX x) ops.size) (altPairs (masks ops.toList []) (xs.map fun x => kindX x) ops.size) else none
theorem firstAlt_some {P : Program} {N : Nat} {ops : Array Oper} {s : List Nat} {x y : List XDop} : ∀ (l : List (Nat × Nat)), firstAlt P N ops s l = some (x, y) → ∃ a b, a ≠ b ∧ cDopsP P N (addEdge a b ops) = some x ∧ cDops P N (permOps s (addEdge b a ops)) = some y
  | [], h => by cases h
  | p :: r, h => by
    unfold firstAlt at h
    split at h
    · rename_i z hz
      cases h
      unfold cAlt1 at hz
      split at hz
      · rename_i u hu
        split at hz
        · rename_i v hv
          cases hab : Nat.beq p.1 p.2 with
          | true => rw [hab] at hz; cases hz
          | false =>
            rw [hab] at hz
            cases hz
            exact ⟨p.1, p.2, (fun e => by rw [e, Nat.beq_refl] at hab; cases hab), hu, hv⟩
        · cases hz
      · cases hz
    · exact firstAlt_some r h

/-- the slots that are kept behind each region, in order -/
abbrev Hints := List (List Nat)

def cCode (P : Program) (N : Nat) : Code → Hints → Option (XCode × Hints)
  | .skip, hs => some (.skip, hs)
  | .region _ ops false, kp :: hs => match cOpers P N ops ops.toList with
    | some xs => some (.ops xs kp, hs)
    | none => none
  | .region _ ops true, kp :: hs => match cDopsP P N ops with
    | some ds => some (.dops ds kp, hs)
    | none => match cAlt P N ops with
      | some z => some (.dalt z.1 z.2 kp, hs)
      | none => some (.cond (.const (.int .i64 0)) .skip .skip, hs)
  | .seq a b, hs => match cCode P N a hs with
    | some (x, hs1) => match cCode P N b hs1 with
      | some (y, hs2) => some (.seq x y, hs2)
      | none => none
    | none => none
  | .cond c a b, hs => bif okOpnd P.globals.size c then match cCode P N a hs with
      | some (x, hs1) => match cCode P N b hs1 with
        | some (y, hs2) => some (.cond c x y, hs2)
        | none => none
      | none => none
    else none
  | .block id c, hs => match cCode P N c hs with
    | some (x, hs1) => some (.block id x, hs1)
    | none => none
  | .loop c, hs => match cCode P N c hs with
    | some (x, hs1) => some (.loop x, hs1)
    | none => none
  | .exit id, hs => some (.exit id, hs)
  | .ret, hs => some (.ret, hs)
  | _, _ => none

def cRes (P : Program) : List ResultVar → Option (List XRes)
  | [] => some []
  | .tmp t :: r => match cRes P r with
    | some xs => some (.tmp t :: xs)
    | none => none
  | .cell a t :: r => match aggSize P t, cRes P r with
    | some n, some xs => some (.cell a n :: xs)
    | _, _ => none

def cFunc (P : Program) (fn : Func) (hs : Hints) : Option XFunc :=
  match fn.body with
  | none => none
  | some c => match cCode P fn.ntmps c hs, cRes P fn.results.toList with
    | some (x, []), some rs => bif fn.name == "runtime.NumGoroutine" then none else some (.code x rs)
    | _, _ => none

/-- a row of our table is what the program has -/
def FMatch (P : Program) (f : FuncId) (x : XFunc) : Prop :=
  match x with
  | .code _ _ => ∃ fn hs, P.funcs[f]? = some fn ∧ cFunc P fn hs = some x
  | .prim g => (∃ fn c, P.funcs[f]? = some fn ∧ fn.body = some c ∧ (fn.name == "runtime.NumGoroutine") = false) ∧ ∀ args H v H', g args H = some (v, H') → CallOk P f args H v H'

variable {P : Program} {base : Nat} {W0 : World} {T : XTab}

def PostE (P : Program) (base : Nat) (W0 : World) (N : Nat) (m : Mp) (H : AH) (w : World) (ex : XExit) (fr' : Fr) (H' : AH) (e : Exit) (a' : Act) (w' : World) : Prop :=
  e = ex.to ∧ ∃ m', St P base W0 N m' fr' H' a' w' ∧ Fut m H w m' H' w'

def CodeOk (P : Program) (self : XSelf) : Prop :=
  ∀ (N : Nat) (c : Code) (hs hs' : Hints) (x : XCode) (fr : Fr) (H : AH) (ex : XExit) (fr' : Fr) (H' : AH), cCode P N c hs = some (x, hs') → self x fr H = some (ex, fr', H') →
    ∀ base W0 m a w, St P base W0 N m fr H a w → c.wp P (PostE P base W0 N m H w ex fr' H') a w

def LoopOk (P : Program) (self : XSelf) (k : Nat) : Prop :=
  ∀ (N : Nat) (c : Code) (hs hs' : Hints) (x : XCode) (fr : Fr) (H : AH) (ex : XExit) (fr' : Fr) (H' : AH), cCode P N c hs = some (x, hs') → self (.loop x) fr H = some (ex, fr', H') →
    ∀ base W0 m a w, St P base W0 N m fr H a w → Code.rounds P c (PostE P base W0 N m H w ex fr' H') k a w

theorem PostE.trans {N : Nat} {m m1 : Mp} {H H1 : AH} {w w1 : World} {ex : XExit} {fr' : Fr} {H' : AH} (hF : Fut m H w m1 H1 w1) {e : Exit} {a' : Act} {w' : World} (h : PostE P base W0 N m1 H1 w1 ex fr' H' e a' w') :
    PostE P base W0 N m H w ex fr' H' e a' w' := by
  obtain ⟨h1, m', h2, h3⟩ := h
  exact ⟨h1, m', h2, hF.trans h3⟩

theorem rounds_mono {c : Code} {Q Q' : Exit → Act → World → Prop} (hq : ∀ e a w, Q e a w → Q' e a w) : ∀ (k : Nat) (a : Act) (w : World), Code.rounds P c Q k a w → Code.rounds P c Q' k a w
  | 0, _, _, h => h.elim
  | k + 1, a, w, h => by
    rw [rounds_succ] at *
    refine wp_mono h fun e a' w' hh => ?_
    cases e <;> first
      | exact rounds_mono hq k a' w' hh
      | exact hq _ _ _ hh

theorem St.keep {N : Nat} {m : Mp} {fr : Fr} {H : AH} {a : Act} {w : World} (h : St P base W0 N m fr H a w) (ks : List Nat) : St P base W0 N m (fr.keep ks) H a w :=
  { hr := h.hr, fr := h.fr.keep ks, df := h.df, sz := h.sz }

theorem cDopsP_any {self : XSelf} (hcall : CallsOk P (xcallOf T self)) {N : Nat} {ops : Array Oper} {ds : List XDop} {fr fr1 : Fr} {H H1 : AH} {m : Mp} {a : Act} {w : World} {Q : Exit → Act → World → Prop} (hds : cDopsP P N ops = some ds)
    (hrun : xdops P (xcallOf T self) ds fr H = some (fr1, H1)) (hst : St P base W0 N m fr H a w) (hq : ∀ m' a' w', St P base W0 N m' fr1 H1 a' w' → Fut m H w m' H1 w' → Q .normal a' w') : wpAny P .any ops Q ops.size (Array.replicate ops.size false) a w := by
  unfold cDopsP at hds
  split at hds
  · rename_i ds' hds'
    cases hds
    exact xdops_wpAny hcall hds' hrun hst hq
  · split at hds
    · cases hds
    · rename_i xs hxs
      cases hpo : permOk (sched (masks ops.toList []) (xs.map fun x => kindX x) ops.size) ops.size with
      | false => simp only [hpo, cond_false] at hds; cases hds
      | true =>
        simp only [hpo, cond_true] at hds
        have h5 := xdops_wpAny hcall hds hrun hst hq
        rw [permOps_size] at h5
        refine wpAny_perm hpo ops.size _ _ _ _ (by simp) (by simp) (fun i hi => ?_) h5
        have b := (permOk_b hpo i hi).1
        rw [Array.getD_eq_getD_getElem?, Array.getD_eq_getD_getElem?, Array.getElem?_replicate, Array.getElem?_replicate, if_pos b, if_pos hi]
theorem xstep_code (hm : P.follows .mixedOrders = true) {self : XSelf} {k : Nat} (hself : CodeOk P self) (hcall : CallsOk P (xcallOf T self)) (hloop : LoopOk P (xstep P T self) (k + 1)) : CodeOk P (xstep P T self) := by
  intro N c
  induction c with
  | skip =>
    intro hs hs' x fr H ex fr' H' hc hx base W0 m a w hst
    simp only [cCode, Option.some.injEq, Prod.mk.injEq] at hc
    obtain ⟨rfl, rfl⟩ := hc
    simp only [xstep, Option.some.injEq, Prod.mk.injEq] at hx
    obtain ⟨rfl, rfl, rfl⟩ := hx
    exact wp_skip ⟨rfl, m, hst, .refl m H w⟩
  | region id ops draw =>
    intro hs hs' x fr H ex fr' H' hc hx base W0 m a w hst
    cases draw
    · cases hs with
      | nil => simp [cCode] at hc
      | cons kp hs =>
        simp only [cCode] at hc
        split at hc
        · rename_i xs hxs
          simp only [Option.some.injEq, Prod.mk.injEq] at hc
          obtain ⟨rfl, rfl⟩ := hc
          simp only [xstep] at hx
          split at hx
          · rename_i fr1 H1 hrun
            simp only [Option.some.injEq, Prod.mk.injEq] at hx
            obtain ⟨rfl, rfl, rfl⟩ := hx
            refine wp_region (xops_wpOps hcall ops.toList xs _ fr H m a w hxs (all2_range ops) hrun hst ?_)
            intro m' a' w' h1 h2
            exact ⟨rfl, m', h1.keep kp, h2⟩
          · simp at hx
        · simp at hc
    · cases hs with
      | nil => simp [cCode] at hc
      | cons kp hs =>
        simp only [cCode] at hc
        split at hc
        · rename_i ds hds
          simp only [Option.some.injEq, Prod.mk.injEq] at hc
          obtain ⟨rfl, rfl⟩ := hc
          simp only [xstep] at hx
          split at hx
          · rename_i fr1 H1 hrun
            simp only [Option.some.injEq, Prod.mk.injEq] at hx
            obtain ⟨rfl, rfl, rfl⟩ := hx
            have hst' : St P base W0 N m fr H a { w with drawn := w.drawn + 1 } := { hr := hst.hr.drew, fr := hst.fr, df := hst.df, sz := hst.sz }
            have key : ∀ (ops' : Array Oper) (Q' : Exit → Act → World → Prop), cDops P N ops' = some ds → (∀ m' a' w', St P base W0 N m' fr1 H1 a' w' → Fut m H { w with drawn := w.drawn + 1 } m' H1 w' → Q' .normal a' w') → wpAny P .any ops' Q' ops'.size (Array.replicate ops'.size false) a { w with drawn := w.drawn + 1 } := fun ops' Q' hds' hq' => xdops_wpAny hcall hds' hrun hst' hq'
            refine wp_region_any hm ?_
            unfold cDopsP at hds
            split at hds
            · rename_i ds' hds'
              cases hds
              exact key ops _ hds' (fun m' a' w' h1 h2 => ⟨rfl, m', h1.keep kp, (Fut.drew m H w).trans h2⟩)
            · split at hds
              · cases hds
              · rename_i xs hxs
                cases hpo : permOk (sched (masks ops.toList []) (xs.map fun x => kindX x) ops.size) ops.size with
                | false => simp only [hpo, cond_false] at hds; cases hds
                | true =>
                  simp only [hpo, cond_true] at hds
                  have h5 := key _ (fun e a' w' => e = .normal ∧ ∃ m', St P base W0 N m' (fr1.keep kp) H1 a' w' ∧ Fut m H w m' H1 w') hds (fun m' a' w' h1 h2 => ⟨rfl, m', h1.keep kp, (Fut.drew m H w).trans h2⟩)
                  rw [permOps_size] at h5
                  refine wpAny_perm hpo ops.size _ _ _ _ (by simp) (by simp) (fun i hi => ?_) h5
                  have b := (permOk_b hpo i hi).1
                  rw [Array.getD_eq_getD_getElem?, Array.getD_eq_getD_getElem?, Array.getElem?_replicate, Array.getElem?_replicate, if_pos b, if_pos hi]
          · simp at hx
        · split at hc
          · rename_i z hz
            simp only [Option.some.injEq, Prod.mk.injEq] at hc
            obtain ⟨rfl, rfl⟩ := hc
            simp only [xstep] at hx
            split at hx
            · rename_i fr1 H1 hrun
              by_cases hag : xdops P (xcallOf T self) z.2 fr H = some (fr1, H1)
              · rw [agree_pos hag] at hx
                simp only [cond_true, Option.some.injEq, Prod.mk.injEq] at hx
                obtain ⟨rfl, rfl, rfl⟩ := hx
                have hst' : St P base W0 N m fr H a { w with drawn := w.drawn + 1 } := { hr := hst.hr.drew, fr := hst.fr, df := hst.df, sz := hst.sz }
                unfold cAlt at hz
                split at hz
                · cases hz
                · rename_i xs hxs
                  cases hpo : permOk (sched (masks ops.toList []) (xs.map fun x => kindX x) ops.size) ops.size with
                  | false => simp only [hpo, cond_false] at hz; cases hz
                  | true =>
                    simp only [hpo, cond_true] at hz
                    obtain ⟨p, q, hpq, k1, k2⟩ := firstAlt_some (x := z.1) (y := z.2) _ hz
                    have hq : ∀ m' a' w', St P base W0 N m' fr1 H1 a' w' → Fut m H { w with drawn := w.drawn + 1 } m' H1 w' → PostE P base W0 N m H w .normal (fr1.keep kp) H1 .normal a' w' := fun m' a' w' h1 h2 => ⟨rfl, m', h1.keep kp, (Fut.drew m H w).trans h2⟩
                    refine wp_region_split hpq hm ?_ ?_
                    · have := cDopsP_any (Q := PostE P base W0 N m H w .normal (fr1.keep kp) H1) hcall k1 hrun hst' hq
                      rw [addEdge_size] at this
                      exact this
                    · have h5 := xdops_wpAny (Q := PostE P base W0 N m H w .normal (fr1.keep kp) H1) hcall k2 hag hst' hq
                      rw [permOps_size, addEdge_size] at h5
                      have hpo' : permOk (sched (masks ops.toList []) (xs.map fun x => kindX x) ops.size) (addEdge q p ops).size = true := by rw [addEdge_size]; exact hpo
                      refine wpAny_perm hpo' ops.size _ _ _ _ (by simp [addEdge_size]) (by simp [addEdge_size]) (fun i hi => ?_) h5
                      rw [addEdge_size] at hi
                      have b := (permOk_b hpo i hi).1
                      rw [Array.getD_eq_getD_getElem?, Array.getD_eq_getD_getElem?, Array.getElem?_replicate, Array.getElem?_replicate, if_pos b, if_pos hi]
              · rw [agree_neg hag] at hx
                simp at hx
            · simp at hx
          · simp only [Option.some.injEq, Prod.mk.injEq] at hc
            obtain ⟨rfl, rfl⟩ := hc
            simp [xstep, ev] at hx
  | seq c1 c2 ih1 ih2 =>
    intro hs hs' x fr H ex fr' H' hc hx base W0 m a w hst
    simp only [cCode] at hc
    split at hc
    · rename_i x1 hs1 hc1
      split at hc
      · rename_i x2 hs2 hc2
        simp only [Option.some.injEq, Prod.mk.injEq] at hc
        obtain ⟨rfl, rfl⟩ := hc
        simp only [xstep] at hx
        cases hr : self x1 fr H with
        | none => rw [hr] at hx; simp at hx
        | some r =>
          obtain ⟨e1, fr1, H1⟩ := r
          rw [hr] at hx
          have h1 := hself N c1 hs hs1 x1 fr H e1 fr1 H1 hc1 hr base W0 m a w hst
          refine wp_seq (wp_mono h1 ?_)
          rintro e a1 w1 ⟨rfl, m1, hst1, hF1⟩
          cases e1 with
          | normal =>
            simp only [] at hx
            exact wp_mono (hself N c2 hs1 hs2 x2 fr1 H1 ex fr' H' hc2 hx base W0 m1 a1 w1 hst1) fun e a2 w2 hp => hp.trans hF1
          | exit id =>
            simp only [Option.some.injEq, Prod.mk.injEq] at hx
            obtain ⟨rfl, rfl, rfl⟩ := hx
            exact ⟨rfl, m1, hst1, hF1⟩
          | ret =>
            simp only [Option.some.injEq, Prod.mk.injEq] at hx
            obtain ⟨rfl, rfl, rfl⟩ := hx
            exact ⟨rfl, m1, hst1, hF1⟩
      · simp at hc
    · simp at hc
  | cond c c1 c2 ih1 ih2 =>
    intro hs hs' x fr H ex fr' H' hc hx base W0 m a w hst
    simp only [cCode] at hc
    cases hok : okOpnd P.globals.size c
    · simp [hok] at hc
    · simp only [hok, cond_true] at hc
      split at hc
      · rename_i x1 hs1 hc1
        split at hc
        · rename_i x2 hs2 hc2
          simp only [Option.some.injEq, Prod.mk.injEq] at hc
          obtain ⟨rfl, rfl⟩ := hc
          simp only [xstep] at hx
          split at hx
          · rename_i hev
            have := flatD_eq 4 _ _ rfl (ev_sound hst.hr hst.fr hok hev)
            exact wp_cond (t := true) this.symm (hself N c1 hs hs1 x1 fr H ex fr' H' hc1 hx base W0 m a w hst)
          · rename_i hev
            have := flatD_eq 4 _ _ rfl (ev_sound hst.hr hst.fr hok hev)
            exact wp_cond (t := false) this.symm (hself N c2 hs1 hs2 x2 fr H ex fr' H' hc2 hx base W0 m a w hst)
          · simp at hx
        · simp at hc
      · simp at hc
  | block id c ih =>
    intro hs hs' x fr H ex fr' H' hc hx base W0 m a w hst
    simp only [cCode] at hc
    split at hc
    · rename_i x1 hs1 hc1
      simp only [Option.some.injEq, Prod.mk.injEq] at hc
      obtain ⟨rfl, rfl⟩ := hc
      simp only [xstep] at hx
      cases hr : self x1 fr H with
      | none => rw [hr] at hx; simp at hx
      | some r =>
        obtain ⟨e1, fr1, H1⟩ := r
        rw [hr] at hx
        have h1 := hself N c hs hs1 x1 fr H e1 fr1 H1 hc1 hr base W0 m a w hst
        refine wp_block (wp_mono h1 ?_)
        rintro e a1 w1 ⟨rfl, m1, hst1, hF1⟩
        cases e1 with
        | normal =>
          simp only [Option.some.injEq, Prod.mk.injEq] at hx
          obtain ⟨rfl, rfl, rfl⟩ := hx
          exact ⟨rfl, m1, hst1, hF1⟩
        | exit j =>
          simp only [] at hx
          simp only [XExit.to, Exit.inBlock]
          by_cases hj : j = id
          · subst hj
            have : Nat.beq j j = true := by simp
            rw [this] at hx
            simp only [cond_true, Option.some.injEq, Prod.mk.injEq] at hx
            obtain ⟨rfl, rfl, rfl⟩ := hx
            rw [if_pos rfl]
            exact ⟨rfl, m1, hst1, hF1⟩
          · have : Nat.beq j id = false := by rw [Tr.beq_eq]; simp [hj]
            rw [this] at hx
            simp only [cond_false, Option.some.injEq, Prod.mk.injEq] at hx
            obtain ⟨rfl, rfl, rfl⟩ := hx
            rw [if_neg hj]
            exact ⟨rfl, m1, hst1, hF1⟩
        | ret =>
          simp only [Option.some.injEq, Prod.mk.injEq] at hx
          obtain ⟨rfl, rfl, rfl⟩ := hx
          exact ⟨rfl, m1, hst1, hF1⟩
    · simp at hc
  | loop c ih =>
    intro hs hs' x fr H ex fr' H' hc hx base W0 m a w hst
    simp only [cCode] at hc
    split at hc
    · rename_i x1 hs1 hc1
      simp only [Option.some.injEq, Prod.mk.injEq] at hc
      obtain ⟨rfl, rfl⟩ := hc
      exact wp_loop_rounds (k + 1) (hloop N c hs hs1 x1 fr H ex fr' H' hc1 hx base W0 m a w hst)
    · simp at hc
  | exit id =>
    intro hs hs' x fr H ex fr' H' hc hx base W0 m a w hst
    simp only [cCode, Option.some.injEq, Prod.mk.injEq] at hc
    obtain ⟨rfl, rfl⟩ := hc
    simp only [xstep, Option.some.injEq, Prod.mk.injEq] at hx
    obtain ⟨rfl, rfl, rfl⟩ := hx
    exact wp_exit ⟨rfl, m, hst, .refl m H w⟩
  | ret =>
    intro hs hs' x fr H ex fr' H' hc hx base W0 m a w hst
    simp only [cCode, Option.some.injEq, Prod.mk.injEq] at hc
    obtain ⟨rfl, rfl⟩ := hc
    simp only [xstep, Option.some.injEq, Prod.mk.injEq] at hx
    obtain ⟨rfl, rfl, rfl⟩ := hx
    exact wp_ret ⟨rfl, m, hst, .refl m H w⟩
  | _ => intro hs hs' x fr H ex fr' H' hc; simp [cCode] at hc

theorem xstep_loop {self : XSelf} {k : Nat} (hself : CodeOk P self) (hloop : LoopOk P self k) : LoopOk P (xstep P T self) (k + 1) := by
  intro N c hs hs' x fr H ex fr' H' hc hx base W0 m a w hst
  simp only [xstep] at hx
  cases hr : self x fr H with
  | none => rw [hr] at hx; simp at hx
  | some r =>
    obtain ⟨e1, fr1, H1⟩ := r
    rw [hr] at hx
    have h1 := hself N c hs hs' x fr H e1 fr1 H1 hc hr base W0 m a w hst
    rw [rounds_succ]
    refine wp_mono h1 ?_
    rintro e a1 w1 ⟨rfl, m1, hst1, hF1⟩
    cases e1 with
    | normal =>
      simp only [] at hx
      exact rounds_mono (fun e a2 w2 hp => hp.trans hF1) k a1 w1 (hloop N c hs hs' x fr1 H1 ex fr' H' hc hx base W0 m1 a1 w1 hst1)
    | exit id =>
      simp only [Option.some.injEq, Prod.mk.injEq] at hx
      obtain ⟨rfl, rfl, rfl⟩ := hx
      exact ⟨rfl, m1, hst1, hF1⟩
    | ret =>
      simp only [Option.some.injEq, Prod.mk.injEq] at hx
      obtain ⟨rfl, rfl, rfl⟩ := hx
      exact ⟨rfl, m1, hst1, hF1⟩

/-! ### calls -/
theorem ofArgs_get : ∀ (vs : List Value) (k i : Nat) (v : Value), (ofArgs k vs).get i = some v → k ≤ i ∧ vs[i - k]? = some v
  | [], k, i, v, h => by simp [ofArgs, Fr.get] at h
  | u :: vs, k, i, v, h => by
    simp only [ofArgs, Fr.get, Tr.beq_eq] at h
    by_cases hk : k = i
    · simp [hk] at h; subst h; subst hk; simp
    · simp only [hk, decide_false, cond_false] at h
      obtain ⟨h1, h2⟩ := ofArgs_get vs (k + 1) i v h
      refine ⟨by omega, ?_⟩
      rw [show i - k = (i - (k + 1)) + 1 by omega]
      simpa using h2

def resOne (tmps : Array Value) : ResultVar → Sem Value
  | .tmp t => pure (tmps.getD t undef)
  | .cell a t => do loadVar t (← asAddr (tmps.getD a undef))

theorem results_eq (fn : Func) (tmps : Array Value) : results fn tmps = (do
    let vs ← fn.results.mapM (resOne tmps)
    pure (if h : vs.size = 1 then vs[0] else .tuple vs)) := rfl

theorem xres_run {fr : Fr} {H : AH} {m : Mp} {a : Act} {w : World} (hr : HR P base W0 m H w) (hf : FrRel m fr a.tmps) : ∀ (rs : List ResultVar) (xs : List XRes) (vs : List Value), cRes P rs = some xs → xress fr H xs = some vs →
    ∃ vs', (rs.mapM (resOne a.tmps)).run P w = .ok vs' w ∧ LRel m vs vs'
  | [], xs, vs, hc, hx => by
    simp [cRes] at hc; subst hc
    simp [xress] at hx; subst hx
    exact ⟨[], by simp, .nil⟩
  | .tmp t :: rs, xs, vs, hc, hx => by
    simp only [cRes] at hc
    split at hc
    · rename_i ys hys
      cases hc
      simp only [xress] at hx
      split at hx
      · rename_i v us hv hus
        cases hx
        obtain ⟨vs', h1, h2⟩ := xres_run hr hf rs ys us hys hus
        simp only [xres] at hv
        obtain ⟨v', g1, g2⟩ := hf t v hv
        refine ⟨v' :: vs', ?_, ?_⟩
        · have : a.tmps.getD t undef = v' := by simp [Array.getD_eq_getD_getElem?, g1]
          simp only [List.mapM_cons, resOne, Sem.run_bind, Sem.run_pure, Result.andThen_ok, h1, this]
        · exact (show LRel m [v] [v'] from ⟨rfl, fun i x hi => by
            cases i with
            | zero => simp at hi; subst hi; exact ⟨v', rfl, g2⟩
            | succ i => simp at hi⟩).append h2
      · simp at hx
    · simp at hc
  | .cell b t :: rs, xs, vs, hc, hx => by
    simp only [cRes] at hc
    split at hc
    · rename_i n ys hn hys
      cases hc
      simp only [xress] at hx
      split at hx
      · rename_i v us hv hus
        cases hx
        obtain ⟨vs', h1, h2⟩ := xres_run hr hf rs ys us hys hus
        simp only [xres] at hv
        split at hv
        · rename_i B off hb
          split at hv
          · rename_i blk hblk
            obtain ⟨q, g1, g2⟩ := hf b _ hb
            obtain ⟨e, he, hk, rfl⟩ := VRel.live_ptr hr hblk g2
            have hget : a.tmps.getD b undef = .pointer (some ⟨e.b, e.base + off, none⟩) := by simp [Array.getD_eq_getD_getElem?, g1]
            obtain ⟨ha, hs⟩ := run_isAgg hn w
            have hload : ∃ v', (loadVar t ⟨e.b, e.base + off, none⟩).run P w = .ok v' w ∧ VRel m v v' := by
              cases n with
              | none =>
                obtain ⟨v', k1, k2⟩ := hr.cell hblk hv he
                exact ⟨v', by simp [loadVar, ha, k1], k2⟩
              | some k =>
                simp only [partV] at hv
                cases hle : Nat.ble (off + k) blk.cells.length
                · simp [hle] at hv
                · simp only [hle, cond_true, Option.some.injEq] at hv
                  obtain ⟨cs, k1, k2⟩ := run_loadCells_rel (P := P) hr hblk he off k (by simpa using hle)
                  subst hv
                  exact ⟨.agg cs.toArray, by simp [loadVar, ha, hs k rfl, k1], k2.to_agg⟩
            obtain ⟨v', k1, k2⟩ := hload
            refine ⟨v' :: vs', ?_, ?_⟩
            · simp only [List.mapM_cons, resOne, Sem.run_bind, Sem.run_pure, Result.andThen_ok, h1, hget, asAddr, k1]
            · exact (show LRel m [v] [v'] from ⟨rfl, fun i x hi => by
                cases i with
                | zero => simp at hi; subst hi; exact ⟨v', rfl, k2⟩
                | succ i => simp at hi⟩).append h2
          · simp at hv
        · simp at hv
      · simp at hx
    · simp at hc

theorem xresult_run {fr : Fr} {H : AH} {m : Mp} {a : Act} {w : World} (hr : HR P base W0 m H w) (hf : FrRel m fr a.tmps) {fn : Func} {xs : List XRes} {v : Value} (hc : cRes P fn.results.toList = some xs) (hx : xresult fr H xs = some v) :
    ∃ v', (results fn a.tmps).run P w = .ok v' w ∧ VRel m v v' := by
  unfold xresult at hx
  have go : ∀ vs, xress fr H xs = some vs → ∃ vs', (results fn a.tmps).run P w = .ok (if h : vs'.length = 1 then vs'[0] else .tuple vs'.toArray) w ∧ LRel m vs vs' := by
    intro vs hvs
    obtain ⟨vs', h1, h2⟩ := xres_run hr hf _ _ _ hc hvs
    refine ⟨vs', ?_, h2⟩
    rw [results_eq, Array.mapM_eq_mapM_toList]
    simp only [Sem.run_bind, Sem.run_map]
    rw [h1]
    simp
  split at hx
  · rename_i u hu
    cases hx
    obtain ⟨vs', h1, h2⟩ := go _ hu
    have hl : vs'.length = 1 := h2.1.symm
    rw [dif_pos hl] at h1
    obtain ⟨y, k1, k2⟩ := h2.2 0 v rfl
    have : vs'[0] = y := by rw [List.getElem?_eq_getElem (by omega)] at k1; exact Option.some.inj k1
    exact ⟨y, by rw [← this]; exact h1, k2⟩
  · rename_i vs hne hvs
    cases hx
    obtain ⟨vs', h1, h2⟩ := go _ hvs
    have hl : ¬ vs'.length = 1 := by
      intro hl
      rw [← h2.1] at hl
      match vs, hl with
      | [u], _ => exact hne u rfl
    rw [dif_neg hl] at h1
    exact ⟨_, h1, h2.to_tuple⟩
  · simp at hx

theorem xcallOf_ok {self : XSelf} (hT : ∀ f x, T f = some x → FMatch P f x) (hself : CodeOk P self) : CallsOk P (xcallOf T self) := by
  intro f args H v H' hx
  unfold xcallOf at hx
  cases ht : T f with
  | none => rw [ht] at hx; simp at hx
  | some x =>
    rw [ht] at hx
    have hm := hT f x ht
    cases x with
    | prim g =>
      obtain ⟨h1, h2⟩ := hm
      exact ⟨h2 args H v H' hx, h1⟩
    | code body res =>
      obtain ⟨fn, hs, hf, hc⟩ := hm
      unfold cFunc at hc
      split at hc
      · simp at hc
      rename_i c hb
      split at hc
      · rename_i x rs hc1 hc2
        cases hn : (fn.name == "runtime.NumGoroutine")
        · simp only [hn, cond_false, Option.some.injEq, XFunc.code.injEq] at hc
          obtain ⟨rfl, rfl⟩ := hc
          refine ⟨?_, fn, c, hf, hb, hn⟩
          intro base W0 m w args' hr hl
          refine calls_of_wp hf hb ?_
          have hst : St P base W0 fn.ntmps m (ofArgs 0 args) H { tmps := args'.toArray ++ Array.replicate (fn.ntmps - args'.toArray.size) undef, defers := [] } w := by
            refine { hr := hr, fr := ?_, df := rfl, sz := by simp; omega }
            intro i u hu
            obtain ⟨_, h2⟩ := ofArgs_get args 0 i u hu
            obtain ⟨u', k1, k2⟩ := hl.2 i u (by simpa using h2)
            have hlt : i < args'.length := (List.getElem?_eq_some_iff.1 k1).1
            refine ⟨u', ?_, k2⟩
            rw [Array.getElem?_append_left (by simpa using hlt)]
            simpa using k1
          have fin : ∀ ex fr' H1, self x (ofArgs 0 args) H = some (ex, fr', H1) → (ex = .ret ∨ ex = .normal) → xresult fr' H1 rs = some v → H' = H1 →
              c.wp P (bodyPost P fn fun e w' => ∃ m' v', e = .returned v' ∧ HR P base W0 m' H' w' ∧ Fut m H w m' H' w' ∧ VRel m' v v') { tmps := args'.toArray ++ Array.replicate (fn.ntmps - args'.toArray.size) undef, defers := [] } w := by
            intro ex fr' H1 h1 h2 h3 h4
            subst h4
            refine wp_mono (hself fn.ntmps c hs [] x _ H ex fr' H' hc1 h1 base W0 m _ w hst) ?_
            rintro e a' w' ⟨rfl, m', hst', hF⟩
            obtain ⟨v', k1, k2⟩ := xresult_run hst'.hr hst'.fr hc2 h3
            rcases h2 with rfl | rfl
            · exact ⟨hst'.df, v', k1, m', v', rfl, hst'.hr, hF, k2⟩
            · exact ⟨hst'.df, v', k1, m', v', rfl, hst'.hr, hF, k2⟩
          cases hr1 : self x (ofArgs 0 args) H with
          | none => simp only [hr1] at hx; cases hx
          | some r =>
            obtain ⟨ex, fr', H1⟩ := r
            simp only [hr1] at hx
            cases ex with
            | normal =>
              simp only [] at hx
              cases hu : xresult fr' H1 rs with
              | none => rw [hu] at hx; simp at hx
              | some u =>
                rw [hu] at hx
                simp only [Option.some.injEq, Prod.mk.injEq] at hx
                obtain ⟨rfl, rfl⟩ := hx
                exact fin _ _ _ hr1 (.inr rfl) hu rfl
            | exit id => simp at hx
            | ret =>
              simp only [] at hx
              cases hu : xresult fr' H1 rs with
              | none => rw [hu] at hx; simp at hx
              | some u =>
                rw [hu] at hx
                simp only [Option.some.injEq, Prod.mk.injEq] at hx
                obtain ⟨rfl, rfl⟩ := hx
                exact fin _ _ _ hr1 (.inl rfl) hu rfl
        · simp [hn] at hc
      · simp at hc

/-- WHAT OUR RUN SAYS, THE MACHINE DOES. -/
theorem xcode_ok (hm : P.follows .mixedOrders = true) (hT : ∀ f x, T f = some x → FMatch P f x) : ∀ k, CodeOk P (xcode P T k) ∧ LoopOk P (xcode P T k) k
  | 0 => ⟨fun N c hs hs' x fr H ex fr' H' hc hx => by simp [xcode_zero] at hx, fun N c hs hs' x fr H ex fr' H' hc hx => by simp [xcode_zero] at hx⟩
  | k + 1 => by
    obtain ⟨h1, h2⟩ := xcode_ok hm hT k
    rw [xcode_succ]
    have hl := xstep_loop (T := T) h1 h2
    exact ⟨xstep_code hm h1 (xcallOf_ok hT h1) hl, hl⟩

theorem xcall_ok (hm : P.follows .mixedOrders = true) (hT : ∀ f x, T f = some x → FMatch P f x) {k : Nat} {f : FuncId} {args : List Value} {H : AH} {v : Value} {H' : AH} (h : xcall P T k f args H = some (v, H')) : CallOk P f args H v H' :=
  (xcallOf_ok hT (xcode_ok hm hT k).1 f args H v H' h).1

/-! for a table that is a tree of comparisons -/
theorem two_ok {c : Bool} {a b : Option XFunc} {x : XFunc} (h : (bif c then a else b) = some x) : a = some x ∨ b = some x := by
  cases c
  · exact .inr h
  · exact .inl h

theorem one_ok {P : Program} {f k : Nat} {y x : XFunc} (h : (bif Nat.beq f k then some y else none) = some x) (hm : f = k → y = x → FMatch P f x) : FMatch P f x := by
  cases hb : Nat.beq f k
  · rw [hb] at h; cases h
  · rw [hb] at h
    simp only [cond_true, Option.some.injEq] at h
    exact hm (Nat.eq_of_beq_eq_true hb) h

end Go.Det

set_option linter.unusedSimpArgs false
set_option linter.unusedVariables false
namespace Go.Det

/-! ### runs without a number of rounds -/
variable {P : Program} {T : XTab}

def CLe (c d : XCall) : Prop := ∀ f args H r, c f args H = some r → d f args H = some r
def SLe (s t : XSelf) : Prop := ∀ c fr H r, s c fr H = some r → t c fr H = some r

theorem xval_mono {c d : XCall} (h : CLe c d) {x : XOper} {fr : Fr} {H : AH} {r : Value × AH} (hx : xval P c x fr H = some r) : xval P d x fr H = some r := by
  unfold xval at *
  cases hw : xwanted fr x.gd with
  | none => simp [hw] at hx
  | some b =>
    cases b
    · simpa [hw] using hx
    · simp only [hw] at hx ⊢
      cases hop : x.op <;> simp only [hop] at hx ⊢ <;> first
        | exact hx
        | skip
      · split at hx
        · exact h _ _ _ _ hx
        · simp at hx
      · split at hx
        · exact h _ _ _ _ hx
        · simp at hx

theorem xops_mono {c d : XCall} (h : CLe c d) : ∀ (xs : List XOper) (fr : Fr) (H : AH) (r : Fr × AH), xops P c xs fr H = some r → xops P d xs fr H = some r
  | [], fr, H, r, hx => hx
  | x :: xs, fr, H, r, hx => by
    simp only [xops] at hx ⊢
    split at hx
    · rename_i v H' hv
      rw [xval_mono h hv]
      exact xops_mono h xs _ _ r hx
    · simp at hx

theorem drun_mono {c d : XCall} (h : CLe c d) : ∀ (ds : List XDop) (t : Nat) (fr : Fr) (H : AH) (hs : List (Nat × AH)) (cs : List (XDop × Fr × Value)) (r : DOut), drun P c t ds fr H hs cs = some r → drun P d t ds fr H hs cs = some r
  | [], t, fr, H, hs, cs, r, hx => hx
  | x :: xs, t, fr, H, hs, cs, r, hx => by
    simp only [drun] at hx ⊢
    split at hx
    · rename_i v H' hv
      rw [xval_mono h hv]
      exact drun_mono h xs _ _ _ _ _ r hx
    · simp at hx

theorem stabOk_mono {c d : XCall} (h : CLe c d) {hs : List (Nat × AH)} {p : XDop × Fr × Value} (hx : stabOk P c hs p = true) : stabOk P d hs p = true := by
  unfold stabOk at *
  refine List.all_eq_true.2 fun t ht => ?_
  have := List.all_eq_true.1 hx t ht
  split at this
  · rename_i H hH
    split at this
    · rename_i r hr
      rw [xval_mono h hr]; exact this
    · simp at this
  · simp at this

theorem xdops_mono {c d : XCall} (h : CLe c d) {ds : List XDop} {fr : Fr} {H : AH} {r : Fr × AH} (hx : xdops P c ds fr H = some r) : xdops P d ds fr H = some r := by
  unfold xdops at *
  split at hx
  · rename_i q hq
    rw [drun_mono h _ _ _ _ _ _ _ hq]
    cases hall : q.cs.all (stabOk P c q.hs)
    · simp [hall] at hx
    · have : q.cs.all (stabOk P d q.hs) = true := List.all_eq_true.2 fun p hp => stabOk_mono h (List.all_eq_true.1 hall p hp)
      simp only [this, cond_true]
      simpa [hall] using hx
  · simp at hx

theorem xcallOf_mono {s t : XSelf} (h : SLe s t) : CLe (xcallOf T s) (xcallOf T t) := by
  intro f args H r hx
  unfold xcallOf at *
  split at hx
  · simp at hx
  · exact hx
  · rename_i body res hT
    cases hb : s body (ofArgs 0 args) H with
    | none => simp [hb] at hx
    | some q => simp only [hb] at hx; simp only [h _ _ _ _ hb]; exact hx

theorem xstep_mono {s t : XSelf} (h : SLe s t) : SLe (xstep P T s) (xstep P T t) := by
  intro c fr H r hx
  have hc := xcallOf_mono (T := T) h
  cases c <;> simp only [xstep] at hx ⊢
  · exact hx
  · split at hx
    · rename_i hv; rw [xops_mono hc _ _ _ _ hv]; exact hx
    · simp at hx
  · split at hx
    · rename_i hv; rw [xdops_mono hc hv]; exact hx
    · simp at hx
  · rename_i l1 l2 kp
    split at hx
    · rename_i fr1 H1 hv
      by_cases hag : xdops P (xcallOf T s) l2 fr H = some (fr1, H1)
      · rw [agree_pos hag] at hx
        rw [xdops_mono hc hv]
        simp only []
        rw [agree_pos (xdops_mono hc hag)]
        exact hx
      · rw [agree_neg hag] at hx; simp at hx
    · simp at hx
  · rename_i a b
    cases hs : s a fr H with
    | none => simp [hs] at hx
    | some q =>
      obtain ⟨e, fr1, H1⟩ := q
      simp only [hs] at hx
      simp only [h _ _ _ _ hs]
      cases e
      · exact h _ _ _ _ hx
      · exact hx
      · exact hx
  · split at hx
    · exact h _ _ _ _ hx
    · exact h _ _ _ _ hx
    · simp at hx
  · rename_i id a
    cases hs : s a fr H with
    | none => simp [hs] at hx
    | some q =>
      simp only [hs] at hx
      simp only [h _ _ _ _ hs]; exact hx
  · rename_i a
    cases hs : s a fr H with
    | none => simp [hs] at hx
    | some q =>
      obtain ⟨e, fr1, H1⟩ := q
      simp only [hs] at hx
      simp only [h _ _ _ _ hs]
      cases e
      · exact h _ _ _ _ hx
      · exact hx
      · exact hx
  · exact hx
  · exact hx

theorem xcode_le_succ : ∀ k, SLe (xcode P T k) (xcode P T (k + 1))
  | 0 => fun c fr H r h => by simp [xcode_zero] at h
  | k + 1 => by rw [xcode_succ, xcode_succ]; exact xstep_mono (xcode_le_succ k)

theorem xcode_le {k j : Nat} (h : k ≤ j) : SLe (xcode P T k) (xcode P T j) := by
  induction h with
  | refl => exact fun _ _ _ _ h => h
  | step _ ih => exact fun c fr H r h => xcode_le_succ _ c fr H r (ih c fr H r h)

open Classical in
/-- the run, with as many rounds as it takes -/
noncomputable def xw (P : Program) (T : XTab) : XSelf := fun c fr H => if h : ∃ k r, xcode P T k c fr H = some r then some h.choose_spec.choose else none

theorem xw_iff {c : XCode} {fr : Fr} {H : AH} {r : XExit × Fr × AH} : xw P T c fr H = some r ↔ ∃ k, xcode P T k c fr H = some r := by
  unfold xw
  constructor
  · intro h
    split at h
    · rename_i hex
      have := hex.choose_spec.choose_spec
      rw [Option.some.inj h] at this
      exact ⟨_, this⟩
    · simp at h
  · rintro ⟨k, hk⟩
    have hex : ∃ k r, xcode P T k c fr H = some r := ⟨k, r, hk⟩
    rw [dif_pos hex]
    have h1 := hex.choose_spec.choose_spec
    have h2 := xcode_le (P := P) (T := T) (Nat.le_max_left hex.choose k) _ _ _ _ h1
    have h3 := xcode_le (P := P) (T := T) (Nat.le_max_right hex.choose k) _ _ _ _ hk
    rw [h2] at h3
    exact h3

/-- calls, with as many rounds as it takes -/
noncomputable def xc (P : Program) (T : XTab) : XCall := xcallOf T (xw P T)

theorem xcode_le_xw (k : Nat) : SLe (xcode P T k) (xw P T) := fun c fr H r h => xw_iff.2 ⟨k, h⟩

theorem xc_iff {f : FuncId} {args : List Value} {H : AH} {r : Value × AH} : xc P T f args H = some r ↔ ∃ k, xcall P T k f args H = some r := by
  constructor
  · intro h
    unfold xc xcallOf at h
    split at h
    · simp at h
    · rename_i g hT
      exact ⟨0, by unfold xcall xcallOf; rw [hT]; exact h⟩
    · rename_i body res hT
      cases hb : xw P T body (ofArgs 0 args) H with
      | none => simp [hb] at h
      | some q =>
        obtain ⟨k, hk⟩ := xw_iff.1 hb
        refine ⟨k, ?_⟩
        unfold xcall xcallOf
        rw [hT]
        simp only [hb] at h
        simp only [hk]; exact h
  · rintro ⟨k, h⟩
    exact xcallOf_mono (xcode_le_xw k) _ _ _ _ h

theorem xcall_le {k j : Nat} (h : k ≤ j) : CLe (xcall P T k) (xcall P T j) := xcallOf_mono (xcode_le h)

theorem xval_lim {x : XOper} {fr : Fr} {H : AH} {r : Value × AH} (hx : xval P (xc P T) x fr H = some r) : ∃ k, xval P (xcall P T k) x fr H = some r := by
  unfold xval at *
  cases hw : xwanted fr x.gd with
  | none => simp [hw] at hx
  | some b =>
    cases b
    · exact ⟨0, by simpa [hw] using hx⟩
    · simp only [hw] at hx ⊢
      cases hop : x.op <;> simp only [hop] at hx ⊢ <;> first
        | exact ⟨0, hx⟩
        | skip
      · split at hx
        · exact xc_iff.1 hx
        · simp at hx
      · split at hx
        · exact xc_iff.1 hx
        · simp at hx

theorem xops_lim : ∀ (xs : List XOper) (fr : Fr) (H : AH) (r : Fr × AH), xops P (xc P T) xs fr H = some r → ∃ k, xops P (xcall P T k) xs fr H = some r
  | [], fr, H, r, hx => ⟨0, hx⟩
  | x :: xs, fr, H, r, hx => by
    simp only [xops] at hx ⊢
    split at hx
    · rename_i v H' hv
      obtain ⟨k1, h1⟩ := xval_lim hv
      obtain ⟨k2, h2⟩ := xops_lim xs _ _ r hx
      refine ⟨max k1 k2, ?_⟩
      rw [xval_mono (xcall_le (Nat.le_max_left k1 k2)) h1]
      exact xops_mono (xcall_le (Nat.le_max_right k1 k2)) _ _ _ _ h2
    · simp at hx

theorem drun_lim : ∀ (ds : List XDop) (t : Nat) (fr : Fr) (H : AH) (hs : List (Nat × AH)) (cs : List (XDop × Fr × Value)) (r : DOut), drun P (xc P T) t ds fr H hs cs = some r → ∃ k, drun P (xcall P T k) t ds fr H hs cs = some r
  | [], t, fr, H, hs, cs, r, hx => ⟨0, hx⟩
  | x :: xs, t, fr, H, hs, cs, r, hx => by
    simp only [drun] at hx ⊢
    split at hx
    · rename_i v H' hv
      obtain ⟨k1, h1⟩ := xval_lim hv
      obtain ⟨k2, h2⟩ := drun_lim xs _ _ _ _ _ r hx
      refine ⟨max k1 k2, ?_⟩
      rw [xval_mono (xcall_le (Nat.le_max_left k1 k2)) h1]
      exact drun_mono (xcall_le (Nat.le_max_right k1 k2)) _ _ _ _ _ _ _ h2
    · simp at hx

theorem all_lim {α : Type} (p : Nat → α → Bool) (q : α → Bool) (hm : ∀ k j a, k ≤ j → p k a = true → p j a = true) (hl : ∀ a, q a = true → ∃ k, p k a = true) : ∀ (l : List α), l.all q = true → ∃ k, l.all (p k) = true
  | [], _ => ⟨0, rfl⟩
  | a :: l, h => by
    simp only [List.all_cons, Bool.and_eq_true] at h
    obtain ⟨k1, h1⟩ := hl a h.1
    obtain ⟨k2, h2⟩ := all_lim p q hm hl l h.2
    refine ⟨max k1 k2, ?_⟩
    simp only [List.all_cons, Bool.and_eq_true]
    exact ⟨hm _ _ a (Nat.le_max_left _ _) h1, List.all_eq_true.2 fun b hb => hm _ _ b (Nat.le_max_right _ _) (List.all_eq_true.1 h2 b hb)⟩

theorem stabOk_lim {hs : List (Nat × AH)} {p : XDop × Fr × Value} (hx : stabOk P (xc P T) hs p = true) : ∃ k, stabOk P (xcall P T k) hs p = true := by
  unfold stabOk at *
  refine all_lim _ _ ?_ ?_ _ hx
  · intro k j t hkj h
    split at h
    · split at h
      · rename_i H hH r hr
        rw [xval_mono (xcall_le hkj) hr]; exact h
      · simp at h
    · simp at h
  · intro t h
    split at h
    · split at h
      · rename_i H hH r hr
        obtain ⟨k, hk⟩ := xval_lim hr
        exact ⟨k, by rw [hk]; exact h⟩
      · simp at h
    · simp at h

theorem xdops_lim {ds : List XDop} {fr : Fr} {H : AH} {r : Fr × AH} (hx : xdops P (xc P T) ds fr H = some r) : ∃ k, xdops P (xcall P T k) ds fr H = some r := by
  unfold xdops at hx
  split at hx
  · rename_i q hq
    cases hall : q.cs.all (stabOk P (xc P T) q.hs)
    · simp [hall] at hx
    · obtain ⟨k1, h1⟩ := drun_lim _ _ _ _ _ _ _ hq
      obtain ⟨k2, h2⟩ := all_lim (fun k => stabOk P (xcall P T k) q.hs) (stabOk P (xc P T) q.hs) (fun k j a hkj h => stabOk_mono (xcall_le hkj) h) (fun a h => stabOk_lim h) _ hall
      refine ⟨max k1 k2, ?_⟩
      unfold xdops
      rw [drun_mono (xcall_le (Nat.le_max_left k1 k2)) _ _ _ _ _ _ _ h1]
      have : q.cs.all (stabOk P (xcall P T (max k1 k2)) q.hs) = true := List.all_eq_true.2 fun p hp => stabOk_mono (xcall_le (Nat.le_max_right k1 k2)) (List.all_eq_true.1 h2 p hp)
      simp only [this, cond_true]
      simpa [hall] using hx
  · simp at hx

/-- THE RUN IS A FIXED POINT OF THE STEP: what is proved about runs is proved with this. -/
theorem xw_step : xw P T = xstep P T (xw P T) := by
  funext c fr H
  have go : ∀ r, xw P T c fr H = some r ↔ xstep P T (xw P T) c fr H = some r := by
    intro r
    constructor
    · intro h
      obtain ⟨k, hk⟩ := xw_iff.1 h
      cases k with
      | zero => simp [xcode_zero] at hk
      | succ k => rw [xcode_succ] at hk; exact xstep_mono (xcode_le_xw k) _ _ _ _ hk
    · intro h
      have fin : (∃ k, xstep P T (xcode P T k) c fr H = some r) → xw P T c fr H = some r := by
        rintro ⟨k, hk⟩
        exact xw_iff.2 ⟨k + 1, by rw [xcode_succ]; exact hk⟩
      have fin2 : ∀ {α : Type} {x : Option α} (k : Nat), True := fun _ => trivial
      refine fin ?_
      cases c <;> simp only [xstep] at h ⊢
      · exact ⟨0, h⟩
      · split at h
        · rename_i hv
          obtain ⟨k, hk⟩ := xops_lim _ _ _ _ hv
          exact ⟨k, by rw [show xcallOf T (xcode P T k) = xcall P T k from rfl, hk]; exact h⟩
        · simp at h
      · split at h
        · rename_i hv
          obtain ⟨k, hk⟩ := xdops_lim hv
          exact ⟨k, by rw [show xcallOf T (xcode P T k) = xcall P T k from rfl, hk]; exact h⟩
        · simp at h
      · rename_i l1 l2 kp
        split at h
        · rename_i fr1 H1 hv
          by_cases hag : xdops P (xcallOf T (xw P T)) l2 fr H = some (fr1, H1)
          · rw [agree_pos hag] at h
            obtain ⟨k1, h1⟩ := xdops_lim hv
            obtain ⟨k2, h2⟩ := xdops_lim hag
            refine ⟨max k1 k2, ?_⟩
            rw [show xcallOf T (xcode P T (max k1 k2)) = xcall P T (max k1 k2) from rfl, xdops_mono (xcall_le (Nat.le_max_left k1 k2)) h1]
            simp only []
            rw [agree_pos (xdops_mono (xcall_le (Nat.le_max_right k1 k2)) h2)]
            exact h
          · rw [agree_neg hag] at h; simp at h
        · simp at h
      · rename_i a b
        cases hs : xw P T a fr H with
        | none => simp [hs] at h
        | some q =>
          obtain ⟨e, fr1, H1⟩ := q
          simp only [hs] at h
          obtain ⟨k1, h1⟩ := xw_iff.1 hs
          cases e
          · obtain ⟨k2, h2⟩ := xw_iff.1 h
            refine ⟨max k1 k2, ?_⟩
            rw [xcode_le (Nat.le_max_left k1 k2) _ _ _ _ h1]
            exact xcode_le (Nat.le_max_right k1 k2) _ _ _ _ h2
          · exact ⟨k1, by rw [h1]; exact h⟩
          · exact ⟨k1, by rw [h1]; exact h⟩
      · split at h
        · exact xw_iff.1 h
        · exact xw_iff.1 h
        · simp at h
      · rename_i id a
        cases hs : xw P T a fr H with
        | none => simp [hs] at h
        | some q =>
          simp only [hs] at h
          obtain ⟨k1, h1⟩ := xw_iff.1 hs
          exact ⟨k1, by rw [h1]; exact h⟩
      · rename_i a
        cases hs : xw P T a fr H with
        | none => simp [hs] at h
        | some q =>
          obtain ⟨e, fr1, H1⟩ := q
          simp only [hs] at h
          obtain ⟨k1, h1⟩ := xw_iff.1 hs
          cases e
          · obtain ⟨k2, h2⟩ := xw_iff.1 h
            refine ⟨max k1 k2, ?_⟩
            rw [xcode_le (Nat.le_max_left k1 k2) _ _ _ _ h1]
            exact xcode_le (Nat.le_max_right k1 k2) _ _ _ _ h2
          · exact ⟨k1, by rw [h1]; exact h⟩
          · exact ⟨k1, by rw [h1]; exact h⟩
      · exact ⟨0, h⟩
      · exact ⟨0, h⟩
  cases h1 : xw P T c fr H with
  | some r => exact ((go r).1 h1).symm
  | none =>
    cases h2 : xstep P T (xw P T) c fr H with
    | none => rfl
    | some r => rw [(go r).2 h2] at h1; simp at h1

theorem xc_ok (hm : P.follows .mixedOrders = true) (hT : ∀ f x, T f = some x → FMatch P f x) {f : FuncId} {args : List Value} {H : AH} {v : Value} {H' : AH} (h : xc P T f args H = some (v, H')) : CallOk P f args H v H' := by
  obtain ⟨k, hk⟩ := xc_iff.1 h
  exact xcall_ok hm hT hk

end Go.Det

set_option linter.unusedSimpArgs false
set_option linter.unusedVariables false
namespace Go.Det

/-! ### slices and what they hold -/
/-- The cells of a slice of n elements: a nil, an empty one without a block, or one in a block of ours. -/
def Sl (H : AH) (sz : Nat) (v : Value) (n : Nat) (cs : List Value) : Prop :=
  (v = .slice none 0 0 ∧ n = 0 ∧ cs = []) ∨
  (∃ B o, v = .slice (some ⟨B, o, none⟩) 0 0 ∧ B < H.n ∧ H.get B = none ∧ n = 0 ∧ cs = []) ∨
  (∃ B o c blk, v = .slice (some ⟨B, o, none⟩) n c ∧ B < H.n ∧ H.get B = some blk ∧ blk.sz = sz ∧ n ≤ c ∧ o + c * sz ≤ blk.cells.length ∧ (blk.cells.drop o).take (n * sz) = cs)

def Ints (H : AH) (v : Value) (l : List Int) : Prop := Sl H 1 v l.length (l.map (.int .i64))

/-- what was there is there -/
def HExt (H H' : AH) : Prop := H.n ≤ H'.n ∧ ∀ B, B < H.n → H'.get B = H.get B

theorem HExt.refl (H : AH) : HExt H H := ⟨Nat.le_refl _, fun _ _ => rfl⟩
theorem HExt.trans {A B C : AH} (h : HExt A B) (k : HExt B C) : HExt A C := ⟨Nat.le_trans h.1 k.1, fun b hb => (k.2 b (Nat.lt_of_lt_of_le hb h.1)).trans (h.2 b hb)⟩

theorem Sl.ext {H H' : AH} (hx : HExt H H') {sz : Nat} {v : Value} {n : Nat} {cs : List Value} (h : Sl H sz v n cs) : Sl H' sz v n cs := by
  rcases h with h | ⟨B, o, h1, h2, h3, h4⟩ | ⟨B, o, c, blk, h1, h2, h3, h4⟩
  · exact .inl h
  · exact .inr (.inl ⟨B, o, h1, Nat.lt_of_lt_of_le h2 hx.1, (hx.2 B h2).trans h3, h4⟩)
  · exact .inr (.inr ⟨B, o, c, blk, h1, Nat.lt_of_lt_of_le h2 hx.1, (hx.2 B h2).trans h3, h4⟩)

/-! ### the start of a law: its arguments -/
def IsRow (k : IntKind) (w : World) (a : Option Addr) (len cap : Nat) (zs : List Int) : Prop :=
  (a = none ∧ len = 0 ∧ cap = 0 ∧ zs = []) ∨
  ∃ x, a = some x ∧ len ≤ cap ∧ cap ≤ maxLen ∧ zs.length = cap ∧ (∀ i, i < zs.length → w.cell? (x.add i) = some (.int k (zs.getD i 0))) ∧ ∀ n ∈ zs, (Lit.int k n).wf = true

structure Start (G : Nat) (w : World) (m : Mp) (H : AH) : Prop where
  hr : HRel G w.heap.size w m H w
  ro : ∀ B blk, H.get B = some blk → blk.ro = true
  ng : ∀ B, m.g B = none
  nh : ∀ k, m.h k = none
theorem Start.nohid {G : Nat} {w : World} {m : Mp} {H : AH} (h : Start G w m H) {Q : Nat → Nat → Prop} : ∀ k b, m.h k = some b → Q k b := fun B b hb => by rw [h.nh B] at hb; cases hb
theorem Start.nomaps {G : Nat} {w : World} {m : Mp} {H : AH} (h : Start G w m H) {Q : Nat → Nat → Prop} : ∀ B b, m.g B = some b → Q B b := fun B b hb => by rw [h.ng B] at hb; cases hb
theorem Start.live {G : Nat} {w : World} {m : Mp} {H : AH} (h : Start G w m H) {B : Nat} {blk : Blk} (hb : H.get B = some blk) : ∃ e, m.f B = some e ∧ BlkAt m w.heap.size blk e w := by
  rcases h.hr.live B blk hb with hx | ⟨b, hg⟩
  · exact hx
  · rw [h.ng B] at hg; cases hg

def m0 (G : Nat) : Mp := ⟨fun g => if g < G then some ⟨g, 0, 0, 0, 1, false, true⟩ else none, fun _ => none, fun _ => none⟩

theorem Start.first (G : Nat) (w : World) : Start G w (m0 G) ⟨G, .leaf⟩ := by
  have hn : ∀ B, (AH.mk G .leaf).get B = none := fun B => rfl
  refine ⟨{ below := .refl _ _, bs := Nat.le_refl _, live := fun B blk h => by rw [hn] at h; simp at h, maps := (fun B b (h : none = some b) => (by cases h)), hid := (fun B b (h : none = some b) => (by cases h)), dom := ?_, apart := fun B B' blk blk' e e' h => by rw [hn] at h; simp at h, glob := ⟨Nat.le_refl _, fun g hg => ⟨⟨g, 0, 0, 0, 1, false, true⟩, by simp [m0, hg], rfl, rfl⟩⟩ }, fun B blk h => by rw [hn] at h; simp at h, fun _ => rfl, fun _ => rfl⟩
  intro B e h
  simp only [m0] at h
  split at h
  · rename_i hB
    simp at h; subst h
    exact ⟨hB, Nat.one_pos⟩
  · simp at h

theorem Start.fresh {G : Nat} {w : World} {m : Mp} {H : AH} (h : Start G w m H) : H.get H.n = none := by
  cases hg : H.get H.n with
  | none => rfl
  | some blk =>
    obtain ⟨e, he, _⟩ := h.live hg
    have := (h.hr.dom _ _ he).1
    omega

def mput (m : Mp) (k : Nat) (e : Ent) : Mp := ⟨fun B => if B = k then some e else m.f B, m.g, m.h⟩

theorem Start.ext {G : Nat} {w : World} {m : Mp} {H : AH} (h : Start G w m H) (e : Ent) : m.Ext (mput m H.n e) := by
  refine ⟨fun B e' he => ?_, fun _ _ h => h, fun _ _ h => h⟩
  have := (h.hr.dom B e' he).1
  have hne : ¬ B = H.n := by omega
  simp [mput, hne, he]

theorem Start.push {G : Nat} {w : World} {m : Mp} {H : AH} (h : Start G w m H) (blk : Blk) (e : Ent) (hsz : 0 < e.sz) (hro : blk.ro = true) (hat : BlkAt (mput m H.n e) w.heap.size blk e w) :
    Start G w (mput m H.n e) (H.push blk) := by
  have hx := h.ext e
  refine ⟨{ below := h.hr.below, bs := h.hr.bs, live := ?_, maps := h.nomaps, hid := h.nohid, dom := ?_, apart := ?_, glob := ?_ }, ?_, h.ng, h.nh⟩
  · intro B b hb
    rw [AH.get_push] at hb
    split at hb
    · rename_i hB
      simp at hb; subst hb; subst hB
      exact .inl ⟨e, by simp [mput], hat⟩
    · obtain ⟨e', he', hk⟩ := h.live hb
      refine .inl ⟨e', hx _ _ he', { kn := hk.kn, sz := hk.sz, opn := hk.opn, ro := hk.ro, at_ := ?_ }⟩
      obtain ⟨c, t, fz, k1, k2, k3, k4, k5⟩ := hk.at_
      refine ⟨c, t, fz, k1, k2, k3, ?_, k5⟩
      intro i v hi
      obtain ⟨v', g1, g2⟩ := k4 i v hi
      exact ⟨v', g1, g2.mono hx⟩
  · intro B e' he
    simp only [mput] at he
    split at he
    · rename_i hB
      simp at he; subst he; subst hB
      exact ⟨by simp, hsz⟩
    · have := h.hr.dom B e' he
      exact ⟨by simp; omega, this.2⟩
  · intro B B' b b' e1 e2 h1 h2 h3 h4 hne hrf
    exfalso
    rw [AH.get_push] at h1
    split at h1
    · rename_i hB
      simp at h1; subst h1; subst hB
      simp [mput] at h3; subst h3
      rw [hat.ro, hro] at hrf; simp at hrf
    · rename_i hB
      simp only [mput, hB, if_false] at h3
      have := h.ro B b h1
      obtain ⟨e', he', hk⟩ := h.live h1
      rw [h3] at he'; cases he'
      rw [hk.ro, this] at hrf; simp at hrf
  · refine ⟨by have := h.hr.glob.1; simp; omega, fun g hg => ?_⟩
    obtain ⟨e', he', h2⟩ := h.hr.glob.2 g hg
    exact ⟨e', hx _ _ he', h2⟩
  · intro B b hb
    rw [AH.get_push] at hb
    split at hb
    · simp at hb; subst hb; exact hro
    · exact h.ro B b hb

/-- a number without a block -/
theorem Start.dead {G : Nat} {w : World} {m : Mp} {H : AH} (h : Start G w m H) (e : Ent) (hsz : 0 < e.sz) : Start G w (mput m H.n e) ⟨H.n + 1, H.t⟩ := by
  have hx := h.ext e
  have hg : ∀ B, (AH.mk (H.n + 1) H.t).get B = H.get B := fun B => rfl
  refine ⟨{ below := h.hr.below, bs := h.hr.bs, live := ?_, maps := h.nomaps, hid := h.nohid, dom := ?_, apart := ?_, glob := ?_ }, fun B b hb => h.ro B b hb, h.ng, h.nh⟩
  · intro B b hb
    obtain ⟨e', he', hk⟩ := h.live hb
    refine .inl ⟨e', hx _ _ he', { kn := hk.kn, sz := hk.sz, opn := hk.opn, ro := hk.ro, at_ := ?_ }⟩
    obtain ⟨c, t, fz, k1, k2, k3, k4, k5⟩ := hk.at_
    refine ⟨c, t, fz, k1, k2, k3, ?_, k5⟩
    intro i v hi
    obtain ⟨v', g1, g2⟩ := k4 i v hi
    exact ⟨v', g1, g2.mono hx⟩
  · intro B e' he
    simp only [mput] at he
    split at he
    · rename_i hB
      simp at he; subst he; subst hB
      exact ⟨Nat.lt_succ_self _, hsz⟩
    · have := h.hr.dom B e' he
      exact ⟨Nat.lt_succ_of_lt this.1, this.2⟩
  · intro B B' b b' e1 e2 h1 h2 h3 h4 hne hrf
    exfalso
    have h1' : H.get B = some b := h1
    have hlt := h.hr.lt h1'
    have hB : ¬ B = H.n := by omega
    simp only [mput, hB, if_false] at h3
    have := h.ro B b h1'
    obtain ⟨e', he', hk⟩ := h.live h1'
    rw [h3] at he'; cases he'
    rw [hk.ro, this] at hrf; simp at hrf
  · refine ⟨Nat.le_succ_of_le h.hr.glob.1, fun g hg => ?_⟩
    obtain ⟨e', he', h2⟩ := h.hr.glob.2 g hg
    exact ⟨e', hx _ _ he', h2⟩

theorem Start.row {G : Nat} {w : World} {m : Mp} {H : AH} (h : Start G w m H) {a : Option Addr} {len cap : Nat} {zs : List Int} (hrow : IsRow .i64 w a len cap zs) :
    ∃ m' H' v, Start G w m' H' ∧ m.Ext m' ∧ HExt H H' ∧ VRel m' v (.slice a len cap) ∧ Ints H' v (zs.take len) := by
  rcases hrow with ⟨rfl, rfl, rfl, rfl⟩ | ⟨x, rfl, hl, hm, hz, hcell, hwf⟩
  · exact ⟨m, H, .slice none 0 0, h, .refl m, .refl H, .nils, .inl ⟨rfl, rfl, rfl⟩⟩
  · rcases Nat.eq_zero_or_pos cap with h0 | h0
    · have hl0 : len = 0 := by omega
      subst h0 hl0
      refine ⟨mput m H.n ⟨0, 0, 0, 0, 1, false, true⟩, ⟨H.n + 1, H.t⟩, .slice (some ⟨H.n, 0, none⟩) 0 0, h.dead _ Nat.one_pos, h.ext _, ⟨Nat.le_succ _, fun _ _ => rfl⟩, ?_, ?_⟩
      · exact .sl0 H.n 0 0 x ⟨0, 0, 0, 0, 1, false, true⟩ (by simp [mput]) (fun _ => rfl) (fun hn => absurd (.inl rfl) hn) (fun hc => absurd rfl hc)
      · exact .inr (.inl ⟨H.n, 0, rfl, Nat.lt_succ_self _, h.fresh, by simp, by simp⟩)
    · -- the block in the world
      have hsp : ∀ i, i < cap → ∃ v, w.cell? (x.add i) = some v := fun i hi => ⟨_, hcell i (by omega)⟩
      obtain ⟨xb, xo, xs⟩ := x
      have h00 := hcell 0 (by omega)
      obtain ⟨c, t, fz, hw, hsn⟩ : ∃ c t fz, w.heap[xb]? = some (.cells c t fz) ∧ xs = none := by
        cases xs with
        | some q =>
          exfalso
          simp only [World.cell?, Addr.add] at h00
          cases hb : w.heap[xb]? with
          | none => simp [hb] at h00
          | some ob => cases ob <;> simp [hb] at h00
        | none =>
          simp only [World.cell?, Addr.add] at h00
          cases hb : w.heap[xb]? with
          | none => simp [hb] at h00
          | some ob =>
            cases ob <;> simp [hb] at h00
            exact ⟨_, _, _, rfl, rfl⟩
      subst hsn
      have hin : ∀ i, i < cap → c[xo + i]? = some (.int .i64 (zs.getD i 0)) := by
        intro i hi
        have := hcell i (by omega)
        have e : (Addr.add ⟨xb, xo, none⟩ i) = ⟨xb, xo + i, none⟩ := by
          unfold Addr.add
          by_cases h : i = 0
          · subst h; simp
          · simp [h]
        rw [e] at this
        simpa [World.cell?, hw] using this
      have hcs : xo + cap ≤ c.size := by
        have h2 := hin (cap - 1) (by omega)
        have h3 := (Array.getElem?_eq_some_iff.1 h2).1
        omega
      have hlen : (zs.map (Value.int .i64)).length = cap := by simp [hz]
      refine ⟨mput m H.n ⟨xb, xo, c.size, cap, 1, false, true⟩, H.push ⟨zs.map (.int .i64), 1, false, true⟩, .slice (some ⟨H.n, 0, none⟩) len cap, h.push _ _ Nat.one_pos rfl ?_, h.ext _, ⟨by simp, fun B hB => ?_⟩, ?_, ?_⟩
      · refine { kn := hlen.symm, sz := rfl, opn := rfl, ro := rfl, at_ := ⟨c, t, fz, hw, rfl, hcs, ?_, by simp⟩ }
        intro i v hi
        have hi' : i < cap := by
          have h3 : i < (zs.map (Value.int .i64)).length := (List.getElem?_eq_some_iff.1 hi).1
          omega
        refine ⟨.int .i64 (zs.getD i 0), hin i hi', ?_⟩
        have : v = .int .i64 (zs.getD i 0) := by
          rw [List.getElem?_map] at hi
          rw [List.getD_eq_getElem?_getD, List.getElem?_eq_getElem (by omega)]
          rw [List.getElem?_eq_getElem (by omega)] at hi
          simp at hi
          simp [hi]
        rw [this]; exact .int _ _
      · rw [AH.get_push, if_neg (by omega)]
      · have := VRel.sl (m := mput m H.n ⟨xb, xo, c.size, cap, 1, false, true⟩) H.n 0 len cap cap ⟨xb, xo, c.size, cap, 1, false, true⟩ (by simp [mput]) h0 hl (Nat.le_refl _) (fun _ => rfl) (fun hn => absurd (.inl rfl) hn) (by simp; omega)
        simpa using this
      · refine .inr (.inr ⟨H.n, 0, cap, _, ?_, by simp, by rw [AH.get_push, if_pos rfl], rfl, ?_, ?_, ?_⟩)
        · rw [List.length_take, Nat.min_eq_left (by omega)]
        · rw [List.length_take]; omega
        · simp [hz]
        · have e : min len zs.length = len := by omega
          simp only [List.drop_zero, Nat.mul_one, List.length_take, List.map_take, e]

/-- THE END OF A LAW: the run gives true. -/
theorem Start.calls {P : Program} {w : World} {m : Mp} {H H' : AH} (h : Start P.globals.size w m H) {f : FuncId} {args args' : List Value} (hl : LRel m args args')
    (hc : CallOk P f args H (.bool true) H') : Calls P f args'.toArray w fun e w' => e = .returned (.bool true) ∧ Go.RowKit.Below w.heap.size w w' := by
  refine (hc w.heap.size w m w args' h.hr hl).mono ?_
  rintro e w' ⟨m', v', rfl, hr, _, hv⟩
  cases hv
  exact ⟨rfl, hr.below⟩

theorem LRel.one {m : Mp} {v v' : Value} (h : VRel m v v') : LRel m [v] [v'] := ⟨rfl, fun i x hi => by
  cases i with
  | zero => simp at hi; subst hi; exact ⟨v', rfl, h⟩
  | succ i => simp at hi⟩
end Go.Det

set_option linter.unusedSimpArgs false
set_option linter.unusedVariables false
namespace Go.Det

/-! ### operations, each in one equation -/
def pLd (n : Option Nat) (a : Value) (H : AH) : Option (Value × AH) :=
  match a with
  | .pointer (some ⟨B, o, none⟩) => (H.get B).bind fun blk => (partV blk.cells o n).map fun v => (v, H)
  | _ => none
def pSt (n : Nat) (a v : Value) (H : AH) : Option (Value × AH) :=
  match a with
  | .pointer (some ⟨B, o, none⟩) => (H.get B).bind fun blk =>
    bif Nat.beq (vcells v).length n && (vcells v).all one && !blk.ro && Nat.ble (o + n) blk.cells.length then some (undef, H.set B { blk with cells := splice blk.cells o (vcells v) }) else none
  | _ => none
def pNil (a : Value) (H : AH) : Option (Value × AH) :=
  match a with
  | .pointer (some a) => some (.pointer (some a), H)
  | .func (.func f) xs ys => some (.func (.func f) xs ys, H)
  | _ => none
def pConv (k : IntKind) (a : Value) (H : AH) : Option (Value × AH) :=
  match a with
  | .int _ n => some (.int k (k.wrap n), H)
  | _ => none
def pFld (off : Nat) (n : Option Nat) (a : Value) (H : AH) : Option (Value × AH) :=
  match a with
  | .agg cs => (partV cs.toList off n).map fun v => (v, H)
  | _ => none
def pFldA (off : Nat) (a : Value) (H : AH) : Option (Value × AH) :=
  match a with
  | .pointer (some ⟨B, o, none⟩) => some (.pointer (some ⟨B, o + off, none⟩), H)
  | _ => none
def pIdx (sz : Nat) (a i : Value) (H : AH) : Option (Value × AH) :=
  match a, i with
  | .slice (some ⟨B, o, none⟩) l c, .int _ (.ofNat k) => bif Nat.blt k l && Nat.ble l c then some (.pointer (some ⟨B, o + k * sz, none⟩), H) else none
  | _, _ => none
def pLen (a : Value) (H : AH) : Option (Value × AH) :=
  match a with
  | .slice _ l _ => some (.int .i64 (Int.ofNat l), H)
  | _ => none
def pExt (i : Nat) (a : Value) (H : AH) : Option (Value × AH) :=
  match a with
  | .tuple vs => (vs.toList[i]?).map fun v => (v, H)
  | _ => none

variable {P : Program} {T : XTab} {fr : Fr} {H : AH}

theorem e_mov (x : Operand) : xop P fr H (.mov x) = (ev fr x).map fun v => (v, H) := by
  simp only [xop]; cases ev fr x <;> rfl
theorem e_pick (c a b : Operand) : xop P fr H (.pick c a b) = (ev fr c).bind fun c => match c with
    | .bool true => (ev fr a).map fun v => (v, H)
    | .bool false => (ev fr b).map fun v => (v, H)
    | _ => none := by
  simp only [xop]
  cases hc : ev fr c with
  | none => rfl
  | some v =>
    cases v <;> try rfl
    rename_i t
    cases t
    · simp only [Option.bind_some]; cases ev fr b <;> rfl
    · simp only [Option.bind_some]; cases ev fr a <;> rfl
theorem e_new (t : TypeId) (sz : Nat) (zs : List Value) : xop P fr H (.new t sz zs) = some (.pointer (some ⟨H.n, 0, none⟩), H.push ⟨zs, sz, false, false⟩) := rfl
theorem e_box (t : TypeId) (sz : Nat) (x : Operand) : xop P fr H (.box t sz x) = (ev fr x).map fun v => (.pointer (some ⟨H.n, 0, none⟩), H.push ⟨vcells v, sz, false, false⟩) := by
  simp only [xop]; cases ev fr x <;> rfl
theorem e_build (zs : List Value) (ps : List (Nat × Nat × Operand)) : xop P fr H (.build zs ps) = (xfill fr ps zs).map fun cs => (.agg cs.toArray, H) := by
  simp only [xop]; cases xfill fr ps zs <;> rfl
theorem e_bslice (e : TypeId) (sz n : Nat) (zs : List Value) (ps : List (Nat × Operand)) :
    xop P fr H (.bslice e sz n zs ps) = (xfill fr (ps.map fun p => (p.1 * sz, sz, p.2)) (rep n zs)).map fun cs => (.slice (some ⟨H.n, 0, none⟩) n n, H.push ⟨cs, sz, false, false⟩) := by
  simp only [xop]; cases xfill fr (ps.map fun p => (p.1 * sz, sz, p.2)) (rep n zs) <;> rfl
theorem e_ld (n : Option Nat) (a : Operand) : xop P fr H (.ld n a) = (ev fr a).bind fun v => pLd n v H := by
  simp only [xop]
  rcases ev fr a with _ | v
  · rfl
  cases v <;> try rfl
  rename_i p
  cases p <;> try rfl
  rename_i ad
  obtain ⟨B, o, s⟩ := ad
  cases s <;> try rfl
  simp only [Option.bind_some, pLd]
  cases hg : H.get B with
  | none => rfl
  | some blk =>
    simp only [Option.bind_some]
    cases partV blk.cells o n <;> rfl
theorem e_st (n : Nat) (a x : Operand) : xop P fr H (.st n a x) = (ev fr a).bind fun v => (ev fr x).bind fun u => pSt n v u H := by
  simp only [xop]
  rcases ev fr a with _ | v
  · rfl
  rcases ev fr x with _ | u
  · cases v <;> try rfl
    rename_i p
    cases p <;> try rfl
    rename_i ad
    obtain ⟨B, o, s⟩ := ad
    cases s <;> rfl
  cases v <;> try rfl
  rename_i p
  cases p <;> try rfl
  rename_i ad
  obtain ⟨B, o, s⟩ := ad
  cases s <;> try rfl
  simp only [Option.bind_some, pSt]
  cases hg : H.get B <;> rfl
theorem e_nilck (a : Operand) : xop P fr H (.nilck a) = (ev fr a).bind fun v => pNil v H := by
  simp only [xop]
  rcases ev fr a with _ | v
  · rfl
  cases v <;> try rfl
  · rename_i p
    cases p <;> rfl
  · rename_i f xs ys
    cases f <;> rfl
theorem e_bin (op : BinOp) (x y : Operand) : xop P fr H (.bin op x y) = (ev fr x).bind fun a => (ev fr y).bind fun b => (xbin op a b).map fun v => (v, H) := by
  simp only [xop]
  rcases ev fr x with _ | a
  · rfl
  rcases ev fr y with _ | b
  · rfl
  simp only [Option.bind_some]
  cases xbin op a b <;> rfl
theorem e_isnil (neg : Bool) (c : Value) (x : Operand) : xop P fr H (.isnil neg c x) = (ev fr x).bind fun a => (xisnil c a).map fun b => (.bool (if neg then !b else b), H) := by
  simp only [xop]
  rcases ev fr x with _ | a
  · rfl
  simp only [Option.bind_some]
  cases xisnil c a <;> rfl
def pCvs (v : Value) (H : AH) : Option (Value × AH) :=
  match v with
  | .slice (some ⟨B, o, none⟩) l c => match H.get B with
    | some blk => bif blk.ro || !(Nat.blt 0 c) then none else some (.slice (some ⟨B, o, none⟩) l c, H)
    | none => none
  | _ => none
theorem e_cvs (a : Operand) : xop P fr H (.cvs a) = (ev fr a).bind fun v => pCvs v H := by
  simp only [xop]
  rcases ev fr a with _ | v
  · rfl
  cases v <;> try rfl
  rename_i p l c
  cases p <;> try rfl
  rename_i ad
  obtain ⟨B, o, s⟩ := ad
  cases s <;> rfl
theorem e_conv (k : IntKind) (a : Operand) : xop P fr H (.conv k a) = (ev fr a).bind fun v => pConv k v H := by
  simp only [xop]
  rcases ev fr a with _ | v
  · rfl
  cases v <;> rfl
theorem e_fld (off : Nat) (n : Option Nat) (a : Operand) : xop P fr H (.fld off n a) = (ev fr a).bind fun v => pFld off n v H := by
  simp only [xop]
  rcases ev fr a with _ | v
  · rfl
  cases v <;> try rfl
  rename_i cs
  simp only [Option.bind_some, pFld]
  cases partV cs.toList off n <;> rfl
theorem e_fldA (off : Nat) (a : Operand) : xop P fr H (.fldA off a) = (ev fr a).bind fun v => pFldA off v H := by
  simp only [xop]
  rcases ev fr a with _ | v
  · rfl
  cases v <;> try rfl
  rename_i p
  cases p <;> try rfl
  rename_i ad
  obtain ⟨B, o, s⟩ := ad
  cases s <;> rfl
theorem e_idxA (sz : Nat) (x i : Operand) : xop P fr H (.idxA sz x i) = (ev fr x).bind fun a => (ev fr i).bind fun b => pIdx sz a b H := by
  simp only [xop]
  rcases ev fr x with _ | v
  · rfl
  rcases ev fr i with _ | u
  · cases v <;> try rfl
    rename_i p l c
    cases p <;> try rfl
    rename_i ad
    obtain ⟨B, o, s⟩ := ad
    cases s <;> rfl
  cases v <;> try rfl
  rename_i p l c
  cases p <;> try rfl
  rename_i ad
  obtain ⟨B, o, s⟩ := ad
  cases s <;> try rfl
  cases u <;> try rfl
  rename_i k n
  cases n <;> rfl
def pMks (sz bytes : Nat) (zs : List Value) (l c : Value) (H : AH) : Option (Value × AH) :=
  match l, c with
  | .int _ (.ofNat l), .int _ (.ofNat c) => bif Nat.ble l c && Nat.ble (c * bytes) 140737488355328 && Nat.ble c 140737488355328 then some (.slice (some ⟨H.n, 0, none⟩) l c, H.push ⟨rep c zs, sz, false, false⟩) else none
  | _, _ => none
theorem e_mks (e : TypeId) (sz bytes : Nat) (zs : List Value) (l c : Operand) : xop P fr H (.mks e sz bytes zs l c) = (ev fr l).bind fun l => (ev fr c).bind fun c => pMks sz bytes zs l c H := by
  simp only [xop]
  rcases ev fr l with _ | v
  · rfl
  rcases ev fr c with _ | u
  · cases v <;> try rfl
    rename_i k n
    cases n <;> rfl
  cases v <;> try rfl
  rename_i k n
  cases n <;> try rfl
  cases u <;> try rfl
  rename_i k' n'
  cases n' <;> rfl
theorem e_slc (sz : Nat) (x : Operand) (lo hi mx : Option Operand) : xop P fr H (.slc sz x lo hi mx) = (ev fr x).bind fun v => (optEv fr lo).bind fun a => (optEv fr hi).bind fun b => (optEv fr mx).bind fun c =>
    bif isSome' mx && !(isSome' hi) then none else (xslc H sz v a b c).map fun r => (r, H) := by
  simp only [xop]
  rcases ev fr x with _ | v
  · rfl
  rcases optEv fr lo with _ | a
  · rfl
  rcases optEv fr hi with _ | b
  · rfl
  rcases optEv fr mx with _ | c
  · rfl
  simp only [Option.bind_some]
  cases xslc H sz v a b c <;> rfl
theorem e_len (a : Operand) : xop P fr H (.len a) = (ev fr a).bind fun v => pLen v H := by
  simp only [xop]
  rcases ev fr a with _ | v
  · rfl
  cases v <;> rfl
theorem e_app (e : TypeId) (sz bytes : Nat) (zs : List Value) (x y : Operand) : xop P fr H (.app e sz bytes zs x y) = (ev fr x).bind fun a => (ev fr y).bind fun b => xapp H sz bytes a b := by
  simp only [xop]
  rcases ev fr x with _ | v
  · rfl
  rcases ev fr y with _ | u
  · rfl
  rfl
theorem e_appN (e : TypeId) (sz bytes : Nat) (zs : List Value) (x y : Operand) : xop P fr H (.appN e sz bytes zs x y) = (ev fr x).bind fun a => (ev fr y).bind fun b => xappN H sz bytes zs a b := by
  simp only [xop]
  rcases ev fr x with _ | v
  · rfl
  rcases ev fr y with _ | u
  · rfl
  rfl
theorem e_copy (sz : Nat) (x y : Operand) : xop P fr H (.copy sz x y) = (ev fr x).bind fun a => (ev fr y).bind fun b => xcopy H sz a b := by
  simp only [xop]
  rcases ev fr x with _ | v
  · rfl
  rcases ev fr y with _ | u
  · rfl
  rfl
theorem e_ext (x : Operand) (i : Nat) : xop P fr H (.ext x i) = (ev fr x).bind fun v => pExt i v H := by
  simp only [xop]
  rcases ev fr x with _ | v
  · rfl
  cases v <;> try rfl
  rename_i vs
  simp only [Option.bind_some, pExt]
  cases vs.toList[i]? <;> rfl
/-! ### runs with what is wanted behind them -/
def Ops (P : Program) (T : XTab) (xs : List XOper) (fr : Fr) (H : AH) (Q : Fr → AH → Prop) : Prop := ∃ fr' H', xops P (xc P T) xs fr H = some (fr', H') ∧ Q fr' H'
def Run (P : Program) (T : XTab) (c : XCode) (fr : Fr) (H : AH) (Q : XExit → Fr → AH → Prop) : Prop := ∃ e fr' H', xw P T c fr H = some (e, fr', H') ∧ Q e fr' H'
/-- a result, and what is wanted of it -/
def Got (o : Option (Value × AH)) (Q : Value → AH → Prop) : Prop := ∃ v H', o = some (v, H') ∧ Q v H'

theorem q_q (v : Value) (H : AH) (Q : Value → AH → Prop) : Got (some (v, H)) Q ↔ Q v H := by
  unfold Got
  constructor
  · rintro ⟨v', H', h, q⟩
    simp only [Option.some.injEq, Prod.mk.injEq] at h
    obtain ⟨rfl, rfl⟩ := h
    exact q
  · intro q; exact ⟨v, H, rfl, q⟩

def isCallOp : XOp → Bool
  | .call .. | .callv .. => true
  | _ => false

theorem q_o (fr : Fr) (H : AH) (Q : Fr → AH → Prop) : Ops P T [] fr H Q ↔ Q fr H := by
  unfold Ops
  simp only [xops]
  constructor
  · rintro ⟨a, b, h, q⟩
    simp only [Option.some.injEq, Prod.mk.injEq] at h
    obtain ⟨rfl, rfl⟩ := h
    exact q
  · intro q; exact ⟨fr, H, rfl, q⟩

theorem ops_val (x : XOper) (xs : List XOper) (fr : Fr) (H : AH) (Q : Fr → AH → Prop) :
    Ops P T (x :: xs) fr H Q ↔ Got (xval P (xc P T) x fr H) fun v H' => Ops P T xs (fr.put? x.dst v) H' Q := by
  unfold Ops Got
  simp only [xops]
  constructor
  · rintro ⟨a, b, h, q⟩
    split at h
    · rename_i v H' hv
      exact ⟨v, H', hv, a, b, h, q⟩
    · simp at h
  · rintro ⟨v, H', hv, a, b, h, q⟩
    exact ⟨a, b, by rw [hv]; exact h, q⟩

theorem xval_op (d : Option Nat) (op : XOp) (fr : Fr) (H : AH) (hn : isCallOp op = false) : xval P (xc P T) ⟨d, op, none⟩ fr H = xop P fr H op := by
  cases op <;> first
    | rfl
    | simp [isCallOp] at hn

theorem q_U (d : Option Nat) (f : FuncId) (args : List Operand) (fr : Fr) (H : AH) : xval P (xc P T) ⟨d, .call f args, none⟩ fr H = (evs fr args).bind fun vs => xc P T f vs H := by
  unfold xval
  simp only [xwanted]
  cases evs fr args <;> rfl

/-! code -/
theorem xw_eq (c : XCode) (fr : Fr) (H : AH) : xw P T c fr H = xstep P T (xw P T) c fr H := congrFun (congrFun (congrFun (xw_step (P := P) (T := T)) c) fr) H

def thenQ (K : Fr → AH → Prop) (Q : XExit → Fr → AH → Prop) : XExit → Fr → AH → Prop
  | .normal, fr, H => K fr H
  | e, fr, H => Q e fr H
def blockQ (id : Nat) (Q : XExit → Fr → AH → Prop) : XExit → Fr → AH → Prop
  | .exit j, fr, H => bif Nat.beq j id then Q .normal fr H else Q (.exit j) fr H
  | e, fr, H => Q e fr H
def Cond (o : Option Value) (A B : Prop) : Prop := ∃ t, o = some (.bool t) ∧ (t = true → A) ∧ (t = false → B)

theorem q_g (K : Fr → AH → Prop) (Q : XExit → Fr → AH → Prop) (fr : Fr) (H : AH) : thenQ K Q .normal fr H ↔ K fr H := Iff.rfl
theorem q_h (K : Fr → AH → Prop) (Q : XExit → Fr → AH → Prop) (j : Nat) (fr : Fr) (H : AH) : thenQ K Q (.exit j) fr H ↔ Q (.exit j) fr H := Iff.rfl
theorem q_i (K : Fr → AH → Prop) (Q : XExit → Fr → AH → Prop) (fr : Fr) (H : AH) : thenQ K Q .ret fr H ↔ Q .ret fr H := Iff.rfl
theorem q_j (id : Nat) (Q : XExit → Fr → AH → Prop) (fr : Fr) (H : AH) : blockQ id Q .normal fr H ↔ Q .normal fr H := Iff.rfl
theorem q_k (id j : Nat) (Q : XExit → Fr → AH → Prop) (fr : Fr) (H : AH) : blockQ id Q (.exit j) fr H ↔ if j = id then Q .normal fr H else Q (.exit j) fr H := by
  simp only [blockQ, Tr.beq_eq]
  by_cases h : j = id <;> simp [h]
theorem q_l (id : Nat) (Q : XExit → Fr → AH → Prop) (fr : Fr) (H : AH) : blockQ id Q .ret fr H ↔ Q .ret fr H := Iff.rfl
theorem qb_W (t : Bool) (A B : Prop) : Cond (some (.bool t)) A B ↔ (t = true → A) ∧ (t = false → B) := by
  unfold Cond
  constructor
  · rintro ⟨t', h, a, b⟩
    simp only [Option.some.injEq, Value.bool.injEq] at h
    subst h
    exact ⟨a, b⟩
  · rintro ⟨a, b⟩; exact ⟨t, rfl, a, b⟩

theorem run_one {c : XCode} {fr fr' : Fr} {H H' : AH} {e : XExit} {Q : XExit → Fr → AH → Prop} (h : xstep P T (xw P T) c fr H = some (e, fr', H')) : Run P T c fr H Q ↔ Q e fr' H' := by
  unfold Run
  rw [xw_eq, h]
  constructor
  · rintro ⟨a, b, d, h, q⟩
    simp only [Option.some.injEq, Prod.mk.injEq] at h
    obtain ⟨rfl, rfl, rfl⟩ := h
    exact q
  · intro q; exact ⟨_, _, _, rfl, q⟩
theorem q_d (fr : Fr) (H : AH) (Q : XExit → Fr → AH → Prop) : Run P T .skip fr H Q ↔ Q .normal fr H := run_one rfl
theorem q_e (id : Nat) (fr : Fr) (H : AH) (Q : XExit → Fr → AH → Prop) : Run P T (.exit id) fr H Q ↔ Q (.exit id) fr H := run_one rfl
theorem q_f (fr : Fr) (H : AH) (Q : XExit → Fr → AH → Prop) : Run P T .ret fr H Q ↔ Q .ret fr H := run_one rfl
theorem q_c (l : List XOper) (keep : List Nat) (fr : Fr) (H : AH) (Q : XExit → Fr → AH → Prop) : Run P T (.ops l keep) fr H Q ↔ Ops P T l fr H fun fr' H' => Q .normal (fr'.keep keep) H' := by
  unfold Run Ops
  rw [xw_eq]
  simp only [xstep, show xcallOf T (xw P T) = xc P T from rfl]
  constructor
  · rintro ⟨a, b, d, h, q⟩
    split at h
    · rename_i fr' H' hv
      simp only [Option.some.injEq, Prod.mk.injEq] at h
      obtain ⟨rfl, rfl, rfl⟩ := h
      exact ⟨_, _, hv, q⟩
    · simp at h
  · rintro ⟨a, b, h, q⟩
    exact ⟨.normal, a.keep keep, b, by rw [h], q⟩
theorem q_a (a b : XCode) (fr : Fr) (H : AH) (Q : XExit → Fr → AH → Prop) : Run P T (.seq a b) fr H Q ↔ Run P T a fr H (thenQ (fun fr H => Run P T b fr H Q) Q) := by
  unfold Run
  rw [xw_eq]
  simp only [xstep]
  constructor
  · rintro ⟨e, fr2, H2, h, q⟩
    cases hr : xw P T a fr H with
    | none => rw [hr] at h; simp at h
    | some r =>
      obtain ⟨e1, fr1, H1⟩ := r
      rw [hr] at h
      cases e1 with
      | normal => exact ⟨.normal, fr1, H1, rfl, e, fr2, H2, h, q⟩
      | exit j =>
        simp only [Option.some.injEq, Prod.mk.injEq] at h
        obtain ⟨rfl, rfl, rfl⟩ := h
        exact ⟨.exit j, fr1, H1, rfl, q⟩
      | ret =>
        simp only [Option.some.injEq, Prod.mk.injEq] at h
        obtain ⟨rfl, rfl, rfl⟩ := h
        exact ⟨.ret, fr1, H1, rfl, q⟩
  · rintro ⟨e1, fr1, H1, h, q⟩
    rw [h]
    cases e1 with
    | normal => exact q
    | exit j => exact ⟨_, _, _, rfl, q⟩
    | ret => exact ⟨_, _, _, rfl, q⟩
theorem qb_V (c : Operand) (a b : XCode) (fr : Fr) (H : AH) (Q : XExit → Fr → AH → Prop) : Run P T (.cond c a b) fr H Q ↔ Cond (ev fr c) (Run P T a fr H Q) (Run P T b fr H Q) := by
  unfold Run Cond
  rw [xw_eq]
  simp only [xstep]
  constructor
  · rintro ⟨e, fr2, H2, h, q⟩
    split at h
    · rename_i hv
      exact ⟨true, hv, fun _ => ⟨_, _, _, h, q⟩, fun h => by simp at h⟩
    · rename_i hv
      exact ⟨false, hv, fun h => by simp at h, fun _ => ⟨_, _, _, h, q⟩⟩
    · simp at h
  · rintro ⟨t, ht, h1, h2⟩
    rw [ht]
    cases t
    · exact h2 rfl
    · exact h1 rfl
theorem q_b (id : Nat) (c : XCode) (fr : Fr) (H : AH) (Q : XExit → Fr → AH → Prop) : Run P T (.block id c) fr H Q ↔ Run P T c fr H (blockQ id Q) := by
  unfold Run
  rw [xw_eq]
  simp only [xstep]
  constructor
  · rintro ⟨e, fr2, H2, h, q⟩
    cases hr : xw P T c fr H with
    | none => rw [hr] at h; simp at h
    | some r =>
      obtain ⟨e1, fr1, H1⟩ := r
      rw [hr] at h
      refine ⟨e1, fr1, H1, rfl, ?_⟩
      cases e1 with
      | normal =>
        simp only [Option.some.injEq, Prod.mk.injEq] at h
        obtain ⟨rfl, rfl, rfl⟩ := h
        exact q
      | exit j =>
        simp only [blockQ]
        cases hj : Nat.beq j id
        · simp only [hj, cond_false, Option.some.injEq, Prod.mk.injEq] at h
          obtain ⟨rfl, rfl, rfl⟩ := h
          exact q
        · simp only [hj, cond_true, Option.some.injEq, Prod.mk.injEq] at h
          obtain ⟨rfl, rfl, rfl⟩ := h
          exact q
      | ret =>
        simp only [Option.some.injEq, Prod.mk.injEq] at h
        obtain ⟨rfl, rfl, rfl⟩ := h
        exact q
  · rintro ⟨e1, fr1, H1, h, q⟩
    rw [h]
    cases e1 with
    | normal => exact ⟨_, _, _, rfl, q⟩
    | exit j =>
      simp only [blockQ] at q
      cases hj : Nat.beq j id
      · rw [hj] at q; exact ⟨_, _, _, by simp only [hj, cond_false], q⟩
      · rw [hj] at q; exact ⟨_, _, _, by simp only [hj, cond_true], q⟩
    | ret => exact ⟨_, _, _, rfl, q⟩
/-- a loop: its body, and then the loop again -/
theorem run_loop (c : XCode) (fr : Fr) (H : AH) (Q : XExit → Fr → AH → Prop) : Run P T (.loop c) fr H Q ↔ Run P T c fr H (thenQ (fun fr H => Run P T (.loop c) fr H Q) Q) := by
  constructor
  · rintro ⟨e, fr2, H2, h, q⟩
    rw [xw_eq] at h
    simp only [xstep] at h
    unfold Run
    cases hr : xw P T c fr H with
    | none => rw [hr] at h; simp at h
    | some r =>
      obtain ⟨e1, fr1, H1⟩ := r
      rw [hr] at h
      cases e1 with
      | normal => exact ⟨.normal, fr1, H1, rfl, e, fr2, H2, h, q⟩
      | exit j =>
        simp only [Option.some.injEq, Prod.mk.injEq] at h
        obtain ⟨rfl, rfl, rfl⟩ := h
        exact ⟨.exit j, fr1, H1, rfl, q⟩
      | ret =>
        simp only [Option.some.injEq, Prod.mk.injEq] at h
        obtain ⟨rfl, rfl, rfl⟩ := h
        exact ⟨.ret, fr1, H1, rfl, q⟩
  · rintro ⟨e1, fr1, H1, h, q⟩
    cases e1 with
    | normal =>
      obtain ⟨e, fr2, H2, h2, q2⟩ := q
      exact ⟨e, fr2, H2, by rw [xw_eq]; simp only [xstep, h]; exact h2, q2⟩
    | exit j => exact ⟨.exit j, fr1, H1, by rw [xw_eq]; simp only [xstep, h], q⟩
    | ret => exact ⟨.ret, fr1, H1, by rw [xw_eq]; simp only [xstep, h], q⟩
theorem Run.mono {c : XCode} {fr : Fr} {H : AH} {Q Q' : XExit → Fr → AH → Prop} (h : Run P T c fr H Q) (hq : ∀ e fr H, Q e fr H → Q' e fr H) : Run P T c fr H Q' := by
  obtain ⟨e, a, b, h, q⟩ := h
  exact ⟨e, a, b, h, hq _ _ _ q⟩
theorem Got.mono {o : Option (Value × AH)} {Q Q' : Value → AH → Prop} (h : Got o Q) (hq : ∀ v H, Q v H → Q' v H) : Got o Q' := by
  obtain ⟨a, b, h, q⟩ := h
  exact ⟨a, b, h, hq _ _ q⟩

/-- the end of a function -/
def retQ (res : List XRes) (Q : Value → AH → Prop) : XExit → Fr → AH → Prop
  | .ret, fr, H => ∃ v, xresult fr H res = some v ∧ Q v H
  | .normal, fr, H => ∃ v, xresult fr H res = some v ∧ Q v H
  | _, _, _ => False
theorem q_m (res : List XRes) (Q : Value → AH → Prop) (fr : Fr) (H : AH) : retQ res Q .ret fr H ↔ ∃ v, xresult fr H res = some v ∧ Q v H := Iff.rfl
theorem q_n (res : List XRes) (Q : Value → AH → Prop) (fr : Fr) (H : AH) : retQ res Q .normal fr H ↔ ∃ v, xresult fr H res = some v ∧ Q v H := Iff.rfl

theorem got_call {f : FuncId} {body : XCode} {res : List XRes} (hT : T f = some (.code body res)) {args : List Value} {H : AH} {Q : Value → AH → Prop} (h : Run P T body (ofArgs 0 args) H (retQ res Q)) : Got (xc P T f args H) Q := by
  obtain ⟨e, fr, H', h, q⟩ := h
  unfold xc xcallOf
  rw [hT]
  simp only [h]
  cases e with
  | normal =>
    obtain ⟨v, hv, q⟩ := q
    exact ⟨v, H', by simp only [hv], q⟩
  | exit j => exact q.elim
  | ret =>
    obtain ⟨v, hv, q⟩ := q
    exact ⟨v, H', by simp only [hv], q⟩

theorem qb_D (v : Value) (Q : Value → Prop) : (∃ u, some v = some u ∧ Q u) ↔ Q v := by
  constructor
  · rintro ⟨u, h, q⟩; cases h; exact q
  · intro q; exact ⟨v, rfl, q⟩
end Go.Det
