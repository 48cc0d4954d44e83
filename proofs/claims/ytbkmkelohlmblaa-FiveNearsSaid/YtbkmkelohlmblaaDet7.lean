/- A part of a run of a program on a heap of its own, and that the machine does what that run says: no condition but those that each theorem names. -/
import Derived.Test.YtbkmkelohlmblaaDet6
set_option linter.unusedSimpArgs false
set_option linter.unusedVariables false
namespace Go.Det

variable {P : Program} {G base : Nat} {W0 : World} {m : Mp} {H : AH} {w : World} {fr : Fr} {a : Act} {o : Oper}

theorem wrap_nat (n : Nat) (h : n < 9223372036854775808) : IntKind.i64.wrap (Int.ofNat n) = Int.ofNat n := by
  simp [IntKind.wrap, IntKind.bits, IntKind.signed]; omega

theorem rep_length (n : Nat) (zs : List Value) : (rep n zs).length = n * zs.length := by
  induction n with
  | zero => simp [rep]
  | succ n ih => simp [rep, ih, Nat.succ_mul]; omega

theorem rep_get (zs : List Value) : ∀ (n i : Nat), i < n * zs.length → (rep n zs)[i]? = zs[i % zs.length]?
  | 0, i, h => by simp at h
  | n + 1, i, h => by
    simp only [rep]
    rw [List.getElem?_append]
    split
    · rename_i hl; rw [Nat.mod_eq_of_lt hl]
    · rename_i hl
      have hl' : zs.length ≤ i := by omega
      rw [rep_get zs n (i - zs.length) (by rw [Nat.succ_mul] at h; omega), Nat.mod_eq_sub_mod hl']

theorem range_rep (z : Array Value) (n sz : Nat) (hz : z.toList.length = sz) : ((Array.range (n * sz)).map (fun i => z[i % z.size]!)).toList = rep n z.toList := by
  apply List.ext_getElem?
  intro i
  simp only [Array.toList_map, Array.toList_range, List.getElem?_map]
  have hs : z.size = sz := by simpa using hz
  by_cases hi : i < n * sz
  · rw [List.getElem?_range hi, rep_get _ _ _ (by rw [hz]; exact hi), hz]
    have hpos : 0 < sz := by
      rcases Nat.eq_zero_or_pos sz with h0 | h0
      · subst h0; simp at hi
      · exact h0
    have hm : i % sz < z.size := by rw [hs]; exact Nat.mod_lt _ hpos
    simp only [Option.map_some, hs]
    rw [Array.getElem?_toList, Array.getElem?_eq_getElem hm]
    simp [hm]
  · rw [List.getElem?_eq_none (by simp; omega), List.getElem?_eq_none (by rw [rep_length, hz]; omega)]
    rfl

theorem rep_flat (n : Nat) (zs : List Value) (h : ∀ z ∈ zs, flatD 4 z = true) : ∀ z ∈ rep n zs, flatD 4 z = true := by
  induction n with
  | zero => intro z hz; simp [rep] at hz
  | succ n ih =>
    intro z hz
    simp only [rep, List.mem_append] at hz
    rcases hz with hz | hz
    · exact h z hz
    · exact ih z hz

theorem run_mks {t e : TypeId} {x y : Operand} {zs : List Value} {i : TypeInfo} {l c : Nat} {k1 k2 : IntKind} (hop : o.op = .makeSlice t x y) (hu : P.underlying t = some (.slice e))
    (hz : zeroAt P e = some zs) (hi : P.info? e = some i) (hlen : zs.length = i.size) (hs1 : 1 ≤ i.size) (hr : HRel G base W0 m H w) (hf : FrRel m fr a.tmps) (hox : okOpnd G x = true) (hoy : okOpnd G y = true)
    (hx : ev fr x = some (.int k1 (.ofNat l))) (hy : ev fr y = some (.int k2 (.ofNat c))) (hlc : l ≤ c) (hcb : c * i.bytes ≤ 140737488355328) (hc : c ≤ 140737488355328) :
    ∃ C : Array Value, C.toList = rep c zs ∧ (execOp a.eval o).run P w = .ok (.value (.slice (some ⟨w.heap.size, 0, none⟩) l c)) { w with heap := w.heap.push (.cells C e (0, 0)) } := by
  have e1 := flatD_eq 4 _ _ rfl (ev_sound hr hf hox hx)
  have e2 := flatD_eq 4 _ _ rfl (ev_sound hr hf hoy hy)
  obtain ⟨⟨z, h1, h2⟩, h3⟩ := run_zero' hz w
  have hzs : z.cells.toList.length = i.size := by rw [h2, hlen]
  let C : Array Value := (Array.range (c * i.size)).map (fun j => (if c * i.size = 0 then #[] else z.cells)[j % (if c * i.size = 0 then #[] else z.cells).size]!)
  have hC : C.toList = rep c zs := by
    rcases Nat.eq_zero_or_pos c with h0 | h0
    · subst h0; simp [C, rep]
    · have : ¬ c * i.size = 0 := Nat.ne_of_gt (Nat.mul_pos h0 (by omega))
      have := range_rep z.cells c i.size hzs
      rw [h2] at this
      simpa [C, ‹¬ c * i.size = 0›] using this
  refine ⟨C, hC, ?_⟩
  · have hw1 := wrap_nat l (by omega)
    have hw2 := wrap_nat c (by omega)
    have t1 : ¬ ((i.bytes : Int) * Int.ofNat c > 2 ^ 48) := by
      have : (i.bytes : Int) * Int.ofNat c = ((c * i.bytes : Nat) : Int) := by rw [Nat.mul_comm]; rfl
      rw [this]; omega
    have t2 : ¬ (Int.ofNat c < 0) := by simp
    have t3 : ¬ (Int.ofNat l < 0) := by simp
    have t4 : ¬ (Int.ofNat l > Int.ofNat c) := by simpa using hlc
    have hn0 : (Int.ofNat c).toNat = c := rfl
    have hl0 : (Int.ofNat l).toNat = l := rfl
    have hsz : (sizeOf e).run P w = .ok i.size w := by simp [sizeOf, typeInfo, hi]
    simp only [execOp, hop, Instr.makeSlice, Sem.run_bind, run_underlying hu, Result.andThen_ok, ← e1, ← e2, asInt, asIntOf, Sem.run_pure, typeInfo, run_program, hi, hw1, hw2, t1, t2, t3, t4,
      decide_false, Bool.or_self, Bool.false_eq_true, if_false, or_self, run_askRoom, hn0, hl0, hsz]
    by_cases hn : c * i.size = 0
    · simp only [hn, if_true, Sem.run_pure, Result.andThen_ok, newRow, Sem.run_bind, run_newObj]
      simp [C, hn]
    · simp only [hn, if_false, Sem.run_bind, h1, Result.andThen_ok, Sem.run_pure, newRow, run_newObj]
      simp [C, hn]

theorem ok_mks {t e : TypeId} {x y : Operand} {zs : List Value} {i : TypeInfo} {l c : Nat} {k1 k2 : IntKind} (hop : o.op = .makeSlice t x y) (hu : P.underlying t = some (.slice e))
    (hz : zeroAt P e = some zs) (hi : P.info? e = some i) (hlen : zs.length = i.size) (hs1 : 1 ≤ i.size) (hr : HRel G base W0 m H w) (hf : FrRel m fr a.tmps) (hox : okOpnd G x = true) (hoy : okOpnd G y = true)
    (hx : ev fr x = some (.int k1 (.ofNat l))) (hy : ev fr y = some (.int k2 (.ofNat c))) (hlc : l ≤ c) (hcb : c * i.bytes ≤ 140737488355328) (hc : c ≤ 140737488355328) :
    OpOk P G base W0 o a w m H (.slice (some ⟨H.n, 0, none⟩) l c) (H.push ⟨rep c zs, i.size, false, false⟩) := by
  have e1 := flatD_eq 4 _ _ rfl (ev_sound hr hf hox hx)
  have e2 := flatD_eq 4 _ _ rfl (ev_sound hr hf hoy hy)
  obtain ⟨⟨z, h1, h2⟩, h3⟩ := run_zero' hz w
  have hzs : z.cells.toList.length = i.size := by rw [h2, hlen]
  let C : Array Value := (Array.range (c * i.size)).map (fun j => (if c * i.size = 0 then #[] else z.cells)[j % (if c * i.size = 0 then #[] else z.cells).size]!)
  have hC : C.toList = rep c zs := by
    rcases Nat.eq_zero_or_pos c with h0 | h0
    · subst h0; simp [C, rep]
    · have : ¬ c * i.size = 0 := Nat.ne_of_gt (Nat.mul_pos h0 (by omega))
      have := range_rep z.cells c i.size hzs
      rw [h2] at this
      simpa [C, ‹¬ c * i.size = 0›] using this
  obtain ⟨hR, hF⟩ := hr.pushL (rep c zs) C e i.size false false (by omega) [] ⟨rep c zs, flat_lrel m _ (rep_flat c zs h3), by simp [hC]⟩
  refine ⟨_, .slice (some ⟨w.heap.size, 0, none⟩) l c, _, .inl ?_, hR, hF, ?_⟩
  · have hw1 := wrap_nat l (by omega)
    have hw2 := wrap_nat c (by omega)
    have t1 : ¬ ((i.bytes : Int) * Int.ofNat c > 2 ^ 48) := by
      have : (i.bytes : Int) * Int.ofNat c = ((c * i.bytes : Nat) : Int) := by rw [Nat.mul_comm]; rfl
      rw [this]; omega
    have t2 : ¬ (Int.ofNat c < 0) := by simp
    have t3 : ¬ (Int.ofNat l < 0) := by simp
    have t4 : ¬ (Int.ofNat l > Int.ofNat c) := by simpa using hlc
    have hn0 : (Int.ofNat c).toNat = c := rfl
    have hl0 : (Int.ofNat l).toNat = l := rfl
    have hsz : (sizeOf e).run P w = .ok i.size w := by simp [sizeOf, typeInfo, hi]
    simp only [execOp, hop, Instr.makeSlice, Sem.run_bind, run_underlying hu, Result.andThen_ok, ← e1, ← e2, asInt, asIntOf, Sem.run_pure, typeInfo, run_program, hi, hw1, hw2, t1, t2, t3, t4,
      decide_false, Bool.or_self, Bool.false_eq_true, if_false, or_self, run_askRoom, hn0, hl0, hsz]
    by_cases hn : c * i.size = 0
    · simp only [hn, if_true, Sem.run_pure, Result.andThen_ok, newRow, Sem.run_bind, run_newObj]
      simp [C, hn]
    · simp only [hn, if_false, Sem.run_bind, h1, Result.andThen_ok, Sem.run_pure, newRow, run_newObj]
      simp [C, hn]
  · have hCs : C.size = c * i.size := by rw [← Array.length_toList, hC, rep_length, hlen]
    exact push_sl m w _ _ _ _ l c c _ _ hlc (Nat.le_refl _) (fun _ => rfl) (fun h => by simp at h) (by rw [hCs]; exact Nat.le_refl _)

theorem optEv_sound (hr : HRel G base W0 m H w) (hf : FrRel m fr a.tmps) {x : Option Operand} (ho : ∀ y, x = some y → okOpnd G y = true) {v : Option Value} (hx : optEv fr x = some v)
    {d n : Nat} (hn : natOf d v = some n) : (x = none ∧ n = d ∧ v = none) ∨ ∃ y k, x = some y ∧ a.eval y = .int k (.ofNat n) := by
  cases x with
  | none => simp [optEv] at hx; subst hx; simp [natOf] at hn; exact .inl ⟨rfl, hn.symm, rfl⟩
  | some y =>
    simp only [optEv] at hx
    cases he : ev fr y with
    | none => simp [he] at hx
    | some u =>
      simp [he] at hx; subst hx
      cases u <;> simp [natOf] at hn
      rename_i k z
      cases z <;> simp [natOf] at hn
      subst hn
      exact .inr ⟨y, k, rfl, (flatD_eq 4 _ _ rfl (ev_sound hr hf (ho y rfl) he)).symm⟩

theorem run_sliceBound {k : IntKind} {n y : Nat} (h : n ≤ y) (code : BoundsCode) (w : World) : (Instr.sliceBound (.int k (.ofNat n)) y code).run P w = .ok n w := by
  have h1 : (0 : Int) ≤ Int.ofNat n ∧ Int.ofNat n ≤ (y : Int) := ⟨Int.natCast_nonneg n, Int.ofNat_le.2 h⟩
  simp only [Instr.sliceBound, asIntOf, Sem.run_bind, Sem.run_pure, Result.andThen_ok, h1, and_self, if_true]
  rfl

theorem run_sliceBound' {k : IntKind} {n y : Nat} (h : n ≤ y) (code : BoundsCode) (w : World) : (Instr.sliceBound (.int k (n : Int)) y code).run P w = .ok n w := run_sliceBound h code w

theorem or3 {A B C D : Prop} (h : (A ∧ B ∧ C) ∨ D) : (A ∧ B) ∨ D := h.imp (fun x => ⟨x.1, x.2.1⟩) id

theorem bound_opt {x : Option Operand} {n d : Nat} (h : (x = none ∧ n = d) ∨ ∃ y k, x = some y ∧ a.eval y = .int k (.ofNat n)) :
    (x.map a.eval = none ∧ n = d) ∨ ∃ k, x.map a.eval = some (.int k (.ofNat n)) := by
  rcases h with ⟨rfl, h⟩ | ⟨y, k, rfl, h⟩
  · exact .inl ⟨rfl, h⟩
  · exact .inr ⟨k, by simp [h]⟩

/-- the bounds of a slice expression: with a max, or without -/
theorem run_sliceBounds {lo hi mx : Option Value} {len cap i h mm : Nat} (isS : Bool)
    (hlo : (lo = none ∧ i = 0) ∨ ∃ k, lo = some (.int k (.ofNat i))) (hhi : (hi = none ∧ h = len) ∨ ∃ k, hi = some (.int k (.ofNat h)))
    (hmx : (mx = none ∧ mm = cap) ∨ ∃ k, mx = some (.int k (.ofNat mm))) (hmh : mx.isSome = true → hi.isSome = true) (h1 : i ≤ h) (h2 : h ≤ mm) (h3 : mm ≤ cap) (w : World) :
    (Instr.sliceBounds isS len cap lo hi mx).run P w = .ok (i, h, mm) w := by
  rcases hmx with ⟨rfl, rfl⟩ | ⟨km, rfl⟩
  · rcases hhi with ⟨rfl, rfl⟩ | ⟨kh, rfl⟩
    · rcases hlo with ⟨rfl, rfl⟩ | ⟨kl, rfl⟩
      · simp [Instr.sliceBounds]
      · simp [Instr.sliceBounds, run_sliceBound' h1]
    · rcases hlo with ⟨rfl, rfl⟩ | ⟨kl, rfl⟩
      · simp [Instr.sliceBounds, run_sliceBound' h2]
      · simp [Instr.sliceBounds, run_sliceBound' h2, run_sliceBound' h1]
  · rcases hhi with ⟨rfl, rfl⟩ | ⟨kh, rfl⟩
    · simp at hmh
    · rcases hlo with ⟨rfl, rfl⟩ | ⟨kl, rfl⟩
      · simp [Instr.sliceBounds, run_sliceBound' h3, run_sliceBound' h2]
      · simp [Instr.sliceBounds, run_sliceBound' h3, run_sliceBound' h2, run_sliceBound' h1]

theorem ok_slc {t e : TypeId} {sz : Nat} {x : Operand} {lo hi mx : Option Operand} (hop : o.op = .slice t x lo hi mx) (hu : P.underlying t = some (.slice e)) (hs : sizeAt P e = some sz)
    (hr : HRel G base W0 m H w) (hf : FrRel m fr a.tmps) (hox : okOpnd G x = true) (hol : ∀ y, lo = some y → okOpnd G y = true) (hoh : ∀ y, hi = some y → okOpnd G y = true)
    (hom : ∀ y, mx = some y → okOpnd G y = true) {v r : Value} {va vb vc : Option Value} (hx : ev fr x = some v) (ha : optEv fr lo = some va) (hb : optEv fr hi = some vb) (hc : optEv fr mx = some vc)
    (hmh : mx.isSome = true → hi.isSome = true) (hxs : xslc H sz v va vb vc = some r) : OpOk P G base W0 o a w m H r H := by
  have h := ev_sound hr hf hox hx
  generalize hq : a.eval x = q at h
  unfold xslc at hxs
  split at hxs
  · -- nil
    split at hxs
    · rename_i n1 n2 n3
      simp at hxs; subst hxs
      have hl := optEv_sound hr hf hol ha n1
      have hh := optEv_sound hr hf hoh hb n2
      have hm := optEv_sound hr hf hom hc n3
      have hq' := flatD_eq 4 _ _ rfl h
      refine .same hr (v' := .slice none 0 0) ?_ .nils
      have hb := run_sliceBounds (P := P) (lo := lo.map a.eval) (hi := hi.map a.eval) (mx := mx.map a.eval) (len := 0) (cap := 0) (i := 0) (h := 0) (mm := 0) true
        (bound_opt (or3 hl)) (bound_opt (or3 hh))
        (bound_opt (or3 hm)) (by simpa using hmh) (Nat.le_refl _) (Nat.le_refl _) (Nat.le_refl _) w
      simp [execOp, hop, Instr.sliceAt, run_underlying hu, Instr.slice, hq, ← hq', hb, run_sizeOf' hs]
    · simp at hxs
  · rename_i B off l c
    split at hxs
    · cases hcond : (Nat.beq l 0 && Nat.beq c 0 && !(isSomeV vc))
      · simp [hcond] at hxs
      · simp only [hcond, cond_true] at hxs
        split at hxs
        · rename_i n1 n2
          simp only [Option.some.injEq] at hxs
          subst hxs
          simp only [Bool.and_eq_true, Bool.not_eq_true'] at hcond
          have l0 : l = 0 := Nat.eq_of_beq_eq_true hcond.1.1
          have c0 : c = 0 := Nat.eq_of_beq_eq_true hcond.1.2
          subst l0 c0
          have hmx : mx = none := by
            cases mx with
            | none => rfl
            | some y =>
              simp only [optEv] at hc
              split at hc
              · simp at hc; subst hc; simp [isSomeV] at hcond
              · simp at hc
          subst hmx
          have hl := optEv_sound hr hf hol ha n1
          have hh := optEv_sound hr hf hoh hb n2
          obtain ⟨ad, c', hqv⟩ : ∃ ad c', q = .slice (some ad) 0 c' := by
            cases h with
            | sl => omega
            | sl0 => exact ⟨_, _, rfl⟩
          subst hqv
          have hb := run_sliceBounds (P := P) (lo := lo.map a.eval) (hi := hi.map a.eval) (mx := none) (len := 0) (cap := c') (i := 0) (h := 0) (mm := c') true
            (bound_opt (or3 hl)) (bound_opt (or3 hh)) (.inl ⟨rfl, rfl⟩) (by simp) (Nat.le_refl _) (Nat.zero_le _) (Nat.le_refl _) w
          refine .same hr (v' := .slice (some ad) 0 c') ?_ h
          have hz : ad.add 0 = ad := rfl
          simp [execOp, hop, Instr.sliceAt, run_underlying hu, Instr.slice, hq, hb, run_sizeOf' hs, hz]
        · simp at hxs
    · rename_i blk hblk
      split at hxs
      · simp at hxs
      · rename_i mm n3
        split at hxs
        · simp at hxs
        · rename_i hh n2
          split at hxs
          · simp at hxs
          · rename_i ii n1
            cases hcond : (Nat.beq blk.sz sz && Nat.ble ii hh && Nat.ble hh mm && Nat.ble mm c && (!(isSomeV vc) || !blk.opn || Nat.blt (off + mm * sz) blk.cells.length))
            · simp only [hcond, cond_false] at hxs
              cases hcond2 : (Nat.beq blk.sz sz && Nat.ble ii hh && Nat.ble hh mm && Nat.ble mm c && isSomeV vc && Nat.blt ii mm)
              · simp [hcond2] at hxs
              · simp only [hcond2, cond_true, Option.some.injEq] at hxs
                subst hxs
                simp only [Bool.and_eq_true, Nat.ble_eq] at hcond2
                obtain ⟨⟨⟨⟨⟨c1, c2⟩, c3⟩, c4⟩, c5⟩, c6⟩ := hcond2
                have c1 : blk.sz = sz := Nat.eq_of_beq_eq_true c1
                have c6 : ii < mm := natlt c6
                obtain ⟨en, hen, hk⟩ := hr.live B blk hblk
                have hesz : en.sz = sz := by rw [hk.sz, c1]
                have hl := optEv_sound hr hf hol ha n1
                have hhh := optEv_sound hr hf hoh hb n2
                have hm := optEv_sound hr hf hom hc n3
                obtain ⟨c', hqv, hcc⟩ : ∃ c', q = .slice (some ⟨en.b, en.base + off, none⟩) l c' ∧ c ≤ c' := by
                  cases h with
                  | sl _ _ _ _ c' e' he h0 h1 h2 h3 h4 h5 =>
                    obtain rfl : e' = en := by rw [hen] at he; exact (Option.some.inj he).symm
                    exact ⟨c', rfl, h2⟩
                  | sl0 => omega
                subst hqv
                have b1 := bound_opt (or3 hl)
                have b2 := bound_opt (or3 hhh)
                rcases hm with ⟨p1, p2, p3⟩ | ⟨y, k, p1, p2⟩
                · subst p3; simp [isSomeV] at c5
                · subst p1
                  have hb : (Instr.sliceBounds true l c' (lo.map a.eval) (hi.map a.eval) ((some y).map a.eval)).run P w = .ok (ii, hh, mm) w := run_sliceBounds true b1 b2 (.inr ⟨k, by simp [p2]⟩) (by simpa using hmh) c2 c3 (Nat.le_trans c4 hcc) w
                  refine .same hr (v' := .slice (some (Addr.add ⟨en.b, en.base + off, none⟩ (ii * sz))) (hh - ii) (mm - ii)) ?_ ?_
                  · have hne : ¬ mm = ii := by omega
                    simp only [execOp, hop, Instr.sliceAt, Sem.run_bind, run_underlying hu, Result.andThen_ok, Instr.slice, hq, hb, run_sizeOf' hs, Sem.run_pure]
                    split
                    · rename_i h; exact absurd h hne
                    · rfl
                  · rw [addr_add, Nat.add_assoc]
                    exact .slx B _ 0 _ _ en hen (by omega)
            · simp only [hcond, cond_true, Option.some.injEq] at hxs
              subst hxs
              simp only [Bool.and_eq_true, Nat.ble_eq] at hcond
              obtain ⟨⟨⟨⟨c1, c2⟩, c3⟩, c4⟩, c5⟩ := hcond
              have c1 : blk.sz = sz := Nat.eq_of_beq_eq_true c1
              obtain ⟨en, hen, hk⟩ := hr.live B blk hblk
              have hesz : en.sz = sz := by rw [hk.sz, c1]
              have hl := optEv_sound hr hf hol ha n1
              have hhh := optEv_sound hr hf hoh hb n2
              have hm := optEv_sound hr hf hom hc n3
              have hszp : 0 < en.sz := (hr.dom B en hen).2
              -- what the machine has
              obtain ⟨ad, c', hqv, hcc, hexact, hnex, haddr, hc0l⟩ : ∃ ad c', q = .slice (some ad) l c' ∧ c ≤ c' ∧ (en.exact off c → c' = c) ∧ (¬ en.exact off c → en.base + off + c' * en.sz = en.size) ∧
                  (c' ≠ 0 → ad = ⟨en.b, en.base + off, none⟩ ∧ (0 < c → en.base + off + c' * en.sz ≤ en.size)) ∧ (c = 0 → l = 0) := by
                cases h with
                | sl _ _ _ _ c' e' he h0 h1 h2 h3 h4 h5 =>
                  obtain rfl : e' = en := by rw [hen] at he; exact (Option.some.inj he).symm
                  exact ⟨_, c', rfl, h2, h3, h4, fun _ => ⟨rfl, fun _ => h5⟩, fun hz => by omega⟩
                | sl0 _ _ c' ad e' he h1 h2 h3 =>
                  obtain rfl : e' = en := by rw [hen] at he; exact (Option.some.inj he).symm
                  exact ⟨_, c', rfl, Nat.zero_le _, h1, h2, fun hne => ⟨h3 hne, fun h0 => by omega⟩, fun _ => rfl⟩
              subst hqv
              -- the bounds there
              obtain ⟨m', hm', hmb⟩ : ∃ m', (mm ≤ m' ∧ m' ≤ c' ∧ (en.exact off c → m' = mm) ∧ (mx.isSome = true → m' = mm) ∧ (mx.isSome = false → m' = c')) ∧
                  (Instr.sliceBounds true l c' (lo.map a.eval) (hi.map a.eval) (mx.map a.eval)).run P w = .ok (ii, hh, m') w := by
                have b1 := bound_opt (or3 hl)
                have b2 := bound_opt (or3 hhh)
                rcases hm with ⟨p1, p2, p3⟩ | ⟨y, k, p1, p2⟩
                · subst p1; subst p2
                  refine ⟨c', ⟨hcc, Nat.le_refl _, hexact, by simp, fun _ => rfl⟩, ?_⟩
                  exact run_sliceBounds true b1 b2 (.inl ⟨rfl, rfl⟩) (by simp) c2 (Nat.le_trans c3 hcc) (Nat.le_refl _) w
                · subst p1
                  refine ⟨mm, ⟨Nat.le_refl _, Nat.le_trans c4 hcc, fun _ => rfl, fun _ => rfl, by simp⟩, ?_⟩
                  exact run_sliceBounds true b1 b2 (.inr ⟨k, by simp [p2]⟩) (by simpa using hmh) c2 c3 (Nat.le_trans c4 hcc) w
              refine .same hr (v' := .slice (some (if m' = ii then ad else ad.add (ii * sz))) (hh - ii) (m' - ii)) ?_ ?_
              · simp only [execOp, hop, Instr.sliceAt, Sem.run_bind, run_underlying hu, Result.andThen_ok, Instr.slice, hq, hmb, run_sizeOf' hs, Sem.run_pure]
                split <;> rfl
              · -- is the room known to be exact?
                have hmxs : mx.isSome = true → blk.opn = false ∨ off + mm * sz < blk.cells.length := by
                  intro hmx
                  have hvc : isSomeV vc = true := by
                    cases mx with
                    | none => simp at hmx
                    | some y =>
                      simp only [optEv] at hc
                      split at hc
                      · simp at hc; subst hc; rfl
                      · simp at hc
                  simp only [hvc, Bool.not_true, Bool.false_or, Bool.or_eq_true, Bool.not_eq_true'] at c5
                  exact c5.imp id natlt
                have hmn : mx.isSome = false → mm = c := by
                  intro hmx
                  rcases hm with ⟨_, p2, _⟩ | ⟨y, k, p1, _⟩
                  · exact p2
                  · rw [p1] at hmx; simp at hmx
                have hmul : ii * sz + (mm - ii) * sz = mm * sz := by rw [← Nat.add_mul]; congr 1; omega
                have hmul' : ii * sz + (m' - ii) * sz = m' * sz := by rw [← Nat.add_mul]; congr 1; omega
                have hmm' : m' * sz ≤ c' * sz := Nat.mul_le_mul_right _ (by omega)
                -- exactness goes over
                have hexm : en.exact (off + ii * sz) (mm - ii) → m' = mm := by
                  intro hex
                  cases hmx : mx.isSome
                  · have hmc := hmn hmx
                    refine hm'.2.2.1 ?_
                    rcases hex with hex | hex
                    · exact .inl hex
                    · right; rw [hesz] at hex ⊢; rw [← hmc]; omega
                  · exact hm'.2.2.2.1 hmx
                have hnexm : ¬ en.exact (off + ii * sz) (mm - ii) → m' = c' ∧ ¬ en.exact off c := by
                  intro hnx
                  cases hmx : mx.isSome
                  · have hmc := hmn hmx
                    have hnx2 : ¬ en.exact off c := fun hex => hnx (by
                      rcases hex with hex | hex
                      · exact .inl hex
                      · right; rw [hesz] at hex ⊢; rw [← hmc] at hex; omega)
                    refine ⟨?_, hnx2⟩
                    exact hm'.2.2.2.2 hmx
                  · exact absurd (by
                      rcases hmxs hmx with h | h
                      · left; rw [hk.opn, h]
                      · right; rw [hesz, hk.kn]; omega) hnx
                rcases Nat.eq_zero_or_pos (mm - ii) with h0 | h0
                · have hhi0 : hh - ii = 0 := by omega
                  have hmi : mm = ii := by omega
                  rw [h0] at hexm hnexm
                  rw [h0, hhi0]
                  refine .sl0 B _ (m' - ii) _ en hen ?_ ?_ ?_
                  · intro hex; have := hexm hex; omega
                  · intro hnx
                    obtain ⟨hmc, hnx2⟩ := hnexm hnx
                    have := hnex hnx2
                    rw [hesz] at this ⊢
                    rw [hmc] at hmul' ⊢
                    omega
                  · intro hne
                    have hne' : ¬ m' = ii := by omega
                    rw [if_neg hne']
                    obtain ⟨z1, _⟩ := haddr (by omega)
                    rw [z1, addr_add, Nat.add_assoc]
                · obtain ⟨z1, z2⟩ := haddr (by omega)
                  have hne' : ¬ m' = ii := by omega
                  rw [if_neg hne', z1, addr_add]
                  have z2 := z2 (by omega)
                  have hgo := VRel.sl (m := m) B (off + ii * sz) (hh - ii) (mm - ii) (m' - ii) en hen h0 (by omega) (by omega) (fun hex => by rw [hexm hex]) (fun hnx => by
                      obtain ⟨hmc, hnx2⟩ := hnexm hnx
                      have := hnex hnx2
                      rw [hesz] at this ⊢
                      rw [hmc] at hmul' ⊢
                      omega) (by rw [hesz] at z2 ⊢; omega)
                  rw [← Nat.add_assoc] at hgo; exact hgo
  · simp at hxs

end Go.Det
