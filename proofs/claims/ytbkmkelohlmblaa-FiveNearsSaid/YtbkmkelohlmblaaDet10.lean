/- A part of a run of a program on a heap of its own, and that the machine does what that run says: no condition but those that each theorem names. -/
import Derived.Test.YtbkmkelohlmblaaDet9
import Derived.Laws.IdiomStrings
set_option linter.unusedSimpArgs false
set_option linter.unusedVariables false
namespace Go.Det

variable {P : Program} {G base : Nat} {W0 : World} {m : Mp} {H : AH} {w : World} {fr : Fr} {a : Act} {o : Oper}

theorem ok_app {c : Call} {t u e : TypeId} {x y : Operand} {d : TypeDesc} {zs : List Value} {i : TypeInfo} (hop : o.op = .call c) (hc : c.callee = .builtin .append) (ht : c.argTypes[0]? = some t) (hu' : c.argTypes[1]? = some u)
    (hargs : c.args.toList = [x, y]) (hu : P.underlying t = some (.slice e)) (hd : P.underlying u = some d) (hd2 : ∀ k, d ≠ .int k) (hz : zeroAt P e = some zs) (hi : P.info? e = some i) (hzl : zs.length = i.size) (hs1 : 1 ≤ i.size)
    (hr : HRel G base W0 m H w) (hf : FrRel m fr a.tmps) (hox : okOpnd G x = true) (hoy : okOpnd G y = true) {p q v : Value} {H' : AH} (hx : ev fr x = some p) (hy : ev fr y = some q)
    (hxa : xapp H i.size i.bytes p q = some (v, H')) : OpOk P G base W0 o a w m H v H' := by
  have hargs' : c.args = #[x, y] := by rw [← Array.toArray_toList (xs := c.args), hargs]
  obtain ⟨m', v', w', h1, h2, h3, h4⟩ := app_sound (P := P) (ty := o.type) ht hu' hu hd hd2 hz hi hzl hs1 hr (ev_sound hr hf hox hx) (ev_sound hr hf hoy hy) hxa
  refine ⟨m', v', w', .inl ?_, h2, h3, h4⟩
  simp [execOp, hop, resolve, hc, hargs', invoke, builtin, h1]

theorem ok_appN {c : Call} {t u e : TypeId} {x y : Operand} {kd : IntKind} {zs : List Value} {i : TypeInfo} (hop : o.op = .call c) (hc : c.callee = .builtin .append) (ht : c.argTypes[0]? = some t) (hu' : c.argTypes[1]? = some u)
    (hargs : c.args.toList = [x, y]) (hu : P.underlying t = some (.slice e)) (hd : P.underlying u = some (.int kd)) (hz : zeroAt P e = some zs) (hi : P.info? e = some i) (hzl : zs.length = i.size) (hs1 : 1 ≤ i.size)
    (hr : HRel G base W0 m H w) (hf : FrRel m fr a.tmps) (hox : okOpnd G x = true) (hoy : okOpnd G y = true) {p q v : Value} {H' : AH} (hx : ev fr x = some p) (hy : ev fr y = some q)
    (hxa : xappN H i.size i.bytes zs p q = some (v, H')) : OpOk P G base W0 o a w m H v H' := by
  have hargs' : c.args = #[x, y] := by rw [← Array.toArray_toList (xs := c.args), hargs]
  have hq : ∃ kv n, q = .int kv (Int.ofNat n) := by
    unfold xappN at hxa
    split at hxa
    · exact ⟨_, _, rfl⟩
    · simp at hxa
  obtain ⟨kv, n, rfl⟩ := hq
  have hy' := flatD_eq 4 _ _ rfl (ev_sound hr hf hoy hy)
  obtain ⟨m', v', w', h1, h2, h3, h4⟩ := appN_sound (P := P) (ty := o.type) ht hu' hu hd hz hi hzl hs1 hr (ev_sound hr hf hox hx) hxa
  refine ⟨m', v', w', .inl ?_, h2, h3, h4⟩
  have h1' : (Builtin.append_ c.argTypes o.type #[a.eval x, .int kv (Int.ofNat n)]).run P w = .ok v' w' := h1
  simp only [execOp, hop, resolve, hc, hargs', Sem.run_bind, Sem.run_pure, Result.andThen_ok, invoke, builtin, List.map_toArray, List.map_cons, List.map_nil, ← hy', h1']

theorem ok_cvs {s d e0 e : TypeId} {x : Operand} (hop : o.op = .convert s d x) (hs : P.underlying s = some (.slice e0)) (hd : P.underlying d = some (.slice e)) (hsd : s = d) (he : P.underlying e = some (.int .u8))
    (hr : HRel G base W0 m H w) (hf : FrRel m fr a.tmps) (ho : okOpnd G x = true) {B off l c : Nat} {blk : Blk} (hx : ev fr x = some (.slice (some ⟨B, off, none⟩) l c)) (hb : H.get B = some blk) (hro : blk.ro = false) (hc : 0 < c) :
    OpOk P G base W0 o a w m H (.slice (some ⟨B, off, none⟩) l c) H := by
  have h := ev_sound hr hf ho hx
  obtain ⟨e1, c', he1, hq⟩ : ∃ e1 c', m.f B = some e1 ∧ a.eval x = .slice (some ⟨e1.b, e1.base + off, none⟩) l c' := by
    generalize hqq : a.eval x = q at h
    cases h with
    | sl _ _ _ _ c' e1 he1 => exact ⟨e1, c', he1, rfl⟩
    | sl0 => omega
  obtain ⟨w', h1, h2, h3⟩ := hr.mark (P := P) hb he1 hro ⟨e1.b, e1.base + off, none⟩ rfl
  rw [hq] at h
  refine ⟨m, _, w', .inl ?_, h2, h3, h⟩
  subst hsd
  obtain rfl : e0 = e := by rw [hs] at hd; cases hd; rfl
  simp [execOp, hop, convert, run_underlying hs, run_underlying hd, run_underlying he, hq, h1]

theorem ok_s2b {s d e : TypeId} {x : Operand} (hop : o.op = .convert s d x) (hs : P.underlying s = some .string) (hd : P.underlying d = some (.slice e)) (he : P.underlying e = some (.int .u8))
    (hr : HRel G base W0 m H w) (hf : FrRel m fr a.tmps) (ho : okOpnd G x = true) {str : ByteArray} (hx : ev fr x = some (.string str)) :
    OpOk P G base W0 o a w m H (.slice (some ⟨H.n, 0, none⟩) str.size str.size) (H.push ⟨strCells str, 1, true, false⟩) := by
  have e1 := flatD_eq 4 _ _ rfl (ev_sound hr hf ho hx)
  have hcap : str.size ≤ grownCap w str.size 0 e := by simp [grownCap, Question.cut]
  have hl : (strCells str).length = str.size := by rw [strCells, List.length_map]; rfl
  have hrow : (bytesRow str (grownCap w str.size 0 e)).toList = strCells str ++ (Array.replicate (grownCap w str.size 0 e - str.size) (Value.int .u8 0)).toList := by
    rw [bytesRow, Array.toList_append, Array.toList_map]; rfl
  have hsz : (bytesRow str (grownCap w str.size 0 e)).size = grownCap w str.size 0 e := by
    rw [← Array.length_toList, hrow, List.length_append, hl, Array.length_toList, Array.size_replicate]; omega
  obtain ⟨hR, hF⟩ := hr.drew.push (strCells str) (bytesRow str (grownCap w str.size 0 e)) e ((bytesRow str (grownCap w str.size 0 e)).size, (bytesRow str (grownCap w str.size 0 e)).size + 1) 1 true false (by omega)
    (by rw [hl, hsz]; exact hcap) (fun i v hi => ⟨v, by
      rw [← Array.getElem?_toList, hrow, List.getElem?_append_left (List.getElem?_eq_some_iff.1 hi).1]; exact hi, flatD_refl m 4 v (strCells_flat str v (List.mem_of_getElem? hi))⟩)
    ⟨by simp, fun o ho => by simp; omega⟩
  refine ⟨_, .slice (some ⟨w.heap.size, 0, none⟩) str.size (grownCap w str.size 0 e), _, .inl ?_, hR, (Fut.drew m H w).trans hF, ?_⟩
  · simp only [execOp, hop, Sem.run_bind, ← e1, run_bytes_of_string w s d e str hs hd he, Result.andThen_ok, Sem.run_pure]
    rfl
  · exact push_sl m w.drew _ _ _ 1 str.size str.size _ true false (Nat.le_refl _) hcap (fun h => by
      rcases h with h | h
      · simp at h
      · rw [hl] at h; omega) (fun _ => by rw [hsz]; omega) (by rw [hsz]; omega)

theorem foldl_bytes : ∀ (ns : List Int) (s : ByteArray), ns.foldl (fun r n => r.push (UInt8.ofNat n.toNat)) s = ⟨(s.data.toList ++ ns.map fun n => UInt8.ofNat n.toNat).toArray⟩
  | [], s => by simp
  | n :: ns, s => by
    simp only [List.foldl_cons, foldl_bytes ns, List.map_cons]
    congr 1
    simp [ByteArray.push]

theorem u8s {cs : List Value} (h : cs.all isU8 = true) : ∃ ns : List Int, cs = ns.map (Value.int .u8) ∧ cs.map u8Of = ns.map fun n => UInt8.ofNat n.toNat := by
  induction cs with
  | nil => exact ⟨[], rfl, rfl⟩
  | cons c cs ih =>
    simp only [List.all_cons, Bool.and_eq_true] at h
    obtain ⟨ns, h1, h2⟩ := ih h.2
    have : ∃ n, c = .int .u8 n := by
      have := h.1
      unfold isU8 at this
      split at this
      · exact ⟨_, rfl⟩
      · simp at this
    obtain ⟨n, rfl⟩ := this
    exact ⟨n :: ns, by simp [h1], by simp [h2, u8Of]⟩

theorem ok_b2s {s d e : TypeId} {x : Operand} (hop : o.op = .convert s d x) (hs : P.underlying s = some (.slice e)) (hd : P.underlying d = some .string) (he : P.underlying e = some (.int .u8))
    (hr : HRel G base W0 m H w) (hf : FrRel m fr a.tmps) (ho : okOpnd G x = true) {v : Value} {r : ByteArray} (hx : ev fr x = some v)
    (hv : (∃ l c, v = .slice none l c ∧ r = .empty) ∨ ∃ ad l c cs, v = .slice (some ad) l c ∧ src H 1 l (.slice (some ad) l c) = some cs ∧ cs.all isU8 = true ∧ r = ⟨(cs.map u8Of).toArray⟩) :
    OpOk P G base W0 o a w m H (.string r) H := by
  have h := ev_sound hr hf ho hx
  refine .same hr (v' := .string r) ?_ (.string _)
  rcases hv with ⟨l, c, rfl, rfl⟩ | ⟨ad, l, c, cs, rfl, hsrc, hall, rfl⟩
  · have : ∃ l' c', a.eval x = .slice none l' c' := by
      generalize a.eval x = y at h
      cases h; exact ⟨_, _, rfl⟩
    obtain ⟨l', c', hq⟩ := this
    simp only [execOp, hop, Sem.run_bind, hq, run_convert_bytes_string w s d e none l' c' hs he hd]
    simp [Conv.bytesToString]
  · obtain ⟨cs', h1, h2, h3⟩ := run_firstCells (P := P) hr h hsrc
    obtain ⟨ns, g1, g2⟩ := u8s hall
    have hcs : cs' = cs := by
      apply List.ext_getElem?
      intro i
      cases hi : cs[i]? with
      | none =>
        have hl : cs.length ≤ i := List.getElem?_eq_none_iff.1 hi
        rw [List.getElem?_eq_none (by rw [← h2.1]; exact hl)]
      | some u =>
        obtain ⟨u', p1, p2⟩ := h2.2 i u hi
        have : flatD 4 u = true := by
          have hm := List.mem_of_getElem? hi
          rw [g1] at hm
          simp only [List.mem_map] at hm
          obtain ⟨n, _, rfl⟩ := hm
          rfl
        rw [p1, flatD_eq 4 _ _ this p2]
    subst hcs
    have : ∃ ad' c', a.eval x = .slice (some ad') l c' := by
      generalize a.eval x = y at h
      cases h <;> exact ⟨_, _, rfl⟩
    obtain ⟨ad', c', hq⟩ := this
    rw [hq] at h1
    simp only [Builtin.firstCells, Nat.mul_one] at h1
    rw [g1] at h1
    have hrun := run_bytesToString (P := P) w ad' l c' ns h1
    simp only [execOp, hop, Sem.run_bind, hq, run_convert_bytes_string w s d e (some ad') l c' hs he hd, hrun, Result.andThen_ok, Sem.run_pure]
    rw [foldl_bytes, g2]
    rfl

theorem ok_copy {c : Call} {t e : TypeId} {sz : Nat} {x y : Operand} (hop : o.op = .call c) (hc : c.callee = .builtin .copy) (ht : c.argTypes[0]? = some t)
    (hargs : c.args.toList = [x, y]) (hu : P.underlying t = some (.slice e)) (hs : sizeAt P e = some sz)
    (hr : HRel G base W0 m H w) (hf : FrRel m fr a.tmps) (hox : okOpnd G x = true) (hoy : okOpnd G y = true) {p q v : Value} {H' : AH} (hx : ev fr x = some p) (hy : ev fr y = some q)
    (hxa : xcopy H sz p q = some (v, H')) : OpOk P G base W0 o a w m H v H' := by
  have hargs' : c.args = #[x, y] := by rw [← Array.toArray_toList (xs := c.args), hargs]
  have hp := ev_sound hr hf hox hx
  have hq := ev_sound hr hf hoy hy
  generalize hp' : a.eval x = p' at hp
  generalize hq' : a.eval y = q' at hq
  -- the run, from its parts
  have run : ∀ (ad : Option Addr) (l c' mlen : Nat) (cs : List Value) (w' : World), p' = .slice ad l c' → (Builtin.lenOf q').run P w = .ok mlen w → (Builtin.firstCells sz (Nat.min mlen l) q').run P w = .ok cs.toArray w →
      (∀ b, ad = some b → (storeCells b cs).run P w = .ok () w') → (ad = none → w' = w) → (execOp a.eval o).run P w = .ok (.value (.int .i64 (Int.ofNat (Nat.min mlen l)))) w' := by
    intro ad l c' mlen cs w' h1 h2 h3 h4 h5
    have : (Builtin.copy_ c.argTypes o.type #[p', q']).run P w = .ok (.int .i64 (Int.ofNat (Nat.min mlen l))) w' := by
      unfold Builtin.copy_
      subst h1
      cases ad with
      | none => simp [ht, run_underlying hu, h2, run_sizeOf' hs, h3, h5 rfl, goInt]
      | some b => simp [ht, run_underlying hu, h2, run_sizeOf' hs, h3, h4 b rfl, goInt]
    simp [execOp, hop, resolve, hc, hargs', invoke, builtin, hp', hq', this]
  unfold xcopy at hxa
  cases hn : srcLen q with
  | none => simp [hn] at hxa
  | some mlen =>
  simp only [hn] at hxa
  have hlen := srcLen_run (P := P) hn hq w
  split at hxa
  · simp only [Option.some.injEq, Prod.mk.injEq] at hxa
    obtain ⟨rfl, rfl⟩ := hxa
    obtain rfl := flatD_eq 4 _ _ rfl hp
    have h0 : ∃ q1, (Builtin.firstCells sz 0 q').run P w = .ok (List.toArray q1) w := by
      cases hq <;> simp [srcLen] at hn
      · exact ⟨[], by simp [Builtin.firstCells]⟩
      · exact ⟨[], by simp [Builtin.firstCells]⟩
      · exact ⟨[], by simp [Builtin.firstCells, loadCells, loadCellsFrom]⟩
      · exact ⟨[], by simp [Builtin.firstCells, loadCells, loadCellsFrom]⟩
      · exact ⟨[], by simp [Builtin.firstCells, loadCells, loadCellsFrom]⟩
    obtain ⟨q1, h0⟩ := h0
    have := run none 0 0 mlen q1 w rfl hlen (by rw [show Nat.min mlen 0 = 0 from Nat.min_zero mlen]; exact h0) (fun b hb => by simp at hb) (fun _ => rfl)
    rw [show Nat.min mlen 0 = 0 from Nat.min_zero mlen] at this
    exact .same hr this (.int _ _)
  · rename_i B off l c
    split at hxa
    · rename_i blk cs hb hcs
      cases hcond : (!blk.ro && Nat.ble (off + l * sz) blk.cells.length)
      · simp [hcond] at hxa
      · simp only [hcond, cond_true, Option.some.injEq, Prod.mk.injEq] at hxa
        obtain ⟨rfl, rfl⟩ := hxa
        simp only [Bool.and_eq_true, Bool.not_eq_true', Nat.ble_eq] at hcond
        obtain ⟨hro, hfit⟩ := hcond
        obtain ⟨en, hen, hk⟩ := hr.live B blk hb
        -- what is copied
        have hsrc : ∃ cs', (Builtin.firstCells sz (Nat.min mlen l) q').run P w = .ok (List.toArray cs') w ∧ LRel m cs cs' ∧ cs.length = Nat.min mlen l * sz ∧ ∀ y ∈ cs', y.oneCell' = true := by
          cases q with
          | string s =>
            simp only at hcs
            obtain rfl := flatD_eq 4 _ _ rfl hq
            simp only [srcLen, Option.some.injEq] at hn; subst hn
            obtain ⟨cs', k1, k2, k3⟩ := run_firstCells (P := P) hr (VRel.string (s.extract 0 (Nat.min s.size l))) hcs
            refine ⟨cs', ?_, k2, k3, lrel_one k2 hr ?_⟩
            · simp only [Builtin.firstCells, Sem.run_pure] at k1 ⊢
              rw [← k1]
              congr 3
              have hmin : Nat.min s.size l ≤ s.size := Nat.min_le_left _ _
              have hsz2 : (s.extract 0 (Nat.min s.size l)).size = Nat.min s.size l := by simp [ByteArray.size_extract]
              conv => rhs; rw [show (s.extract 0 (Nat.min s.size l)).extract 0 (Nat.min s.size l) = (s.extract 0 (Nat.min s.size l)).extract 0 (s.extract 0 (Nat.min s.size l)).size by rw [hsz2]]
              rw [ByteArray.extract_zero_size]
            · unfold src at hcs
              cases hcond2 : (Nat.beq sz 1 && Nat.beq (Nat.min s.size l) (s.extract 0 (Nat.min s.size l)).size)
              · simp only [hcond2, cond_false] at hcs; cases hcs
              · simp only [hcond2, cond_true, Option.some.injEq] at hcs
                subst hcs
                exact List.all_eq_true.2 fun z hz => by
                  have := strCells_flat _ z hz
                  simp only [strCells, List.mem_map] at hz
                  obtain ⟨b, _, rfl⟩ := hz
                  rfl
          | slice ad l' c' =>
            simp only at hcs
            obtain ⟨cs', k1, k2, k3⟩ := run_firstCells (P := P) hr hq hcs
            exact ⟨cs', k1, k2, k3, lrel_one k2 hr (src_one hcs)⟩
          | _ => simp [srcLen] at hn
        obtain ⟨cs', k1, k2, k3, k4⟩ := hsrc
        have hmin : Nat.min mlen l * sz ≤ l * sz := Nat.mul_le_mul_right _ (Nat.min_le_right _ _)
        obtain ⟨ad, c', hpv, haddr⟩ : ∃ ad c', p' = .slice (some ad) l c' ∧ (0 < l → ad = ⟨en.b, en.base + off, none⟩) := by
          cases hp with
          | sl _ _ _ _ c' e' he h0 h1 h2 h3 h4 h5 =>
            obtain rfl : e' = en := by rw [hen] at he; exact (Option.some.inj he).symm
            exact ⟨_, c', rfl, fun _ => rfl⟩
          | sl0 _ _ c' ad e' he h1 h2 h3 => exact ⟨_, c', rfl, fun h => by omega⟩
        rcases Nat.eq_zero_or_pos l with hl0 | hl0
        · subst hl0
          have hcs0 : cs = [] := by
            have : cs.length = 0 := by rw [k3, show Nat.min mlen 0 = 0 from Nat.min_zero mlen]; simp
            simpa using this
          subst hcs0
          have hcs0' : cs' = [] := by have := k2.1; simpa using this.symm
          subst hcs0'
          have := run (some ad) 0 c' mlen [] w hpv hlen k1 (fun b hb => by simp [storeCells]) (fun _ => rfl)
          have hgeq : ∀ C, (H.set B { blk with cells := splice blk.cells off [] }).get C = H.get C := fun C => by
            rw [AH.get_set, splice_nil]
            by_cases hC : C = B
            · simp [hC, hb]
            · simp [hC]
          have hF : Fut m H w m (H.set B { blk with cells := splice blk.cells off [] }) w := Fut.of_store hb hen (by rw [hk.ro]; exact hro) (fun _ _ => rfl) rfl
          exact ⟨m, _, w, .inl this, by simpa [hro] using hr.congr (H' := H.set B { blk with cells := splice blk.cells off [] }) rfl hgeq, by simpa [hro] using hF, .int _ _⟩
        · obtain rfl := haddr hl0
          obtain ⟨w', s1, s2, s3, s4⟩ := run_storeCells_rel (P := P) cs' cs 0 off B blk en H w hr hb hen hro k2 k4 (by rw [k3]; simp only [Nat.add_zero]; omega)
          have := run (some ⟨en.b, en.base + off, none⟩) l c' mlen cs' w' hpv hlen k1 (fun b hb => by simp at hb; subst hb; exact s1) (fun h => by simp at h)
          exact ⟨m, _, w', .inl this, by simpa [hro] using s2, by simpa [hro] using Fut.of_store (cs := splice blk.cells off cs) hb hen (by rw [hk.ro]; exact hro) s3 s4, .int _ _⟩
    · simp at hxa
  · simp at hxa

theorem ok_clear {c : Call} {t e : TypeId} {sz : Nat} {zs : List Value} {x : Operand} (hop : o.op = .call c) (hc : c.callee = .builtin .clear) (ht : c.argTypes[0]? = some t)
    (hargs : c.args.toList = [x]) (hu : P.underlying t = some (.slice e)) (hz : zeroAt P e = some zs) (hzl : zs.length = sz)
    (hr : HRel G base W0 m H w) (hf : FrRel m fr a.tmps) (hox : okOpnd G x = true) {p v : Value} {H' : AH} (hx : ev fr x = some p)
    (hxa : xclr H sz zs p = some (v, H')) : OpOk P G base W0 o a w m H v H' := by
  have hargs' : c.args = #[x] := by rw [← Array.toArray_toList (xs := c.args), hargs]
  have hp := ev_sound hr hf hox hx
  generalize hp' : a.eval x = p' at hp
  obtain ⟨⟨z, hz1, hz2⟩, hz3⟩ := run_zero' hz w
  have hzsz : z.cells.size = sz := by rw [← Array.length_toList, hz2, hzl]
  have hcz : ∀ n, (Builtin.zeroCells z.cells n).toList = rep n zs := by
    intro n
    have := range_rep z.cells n sz (by rw [Array.length_toList]; exact hzsz)
    unfold Builtin.zeroCells
    rw [hzsz] at *
    rw [this, hz2]
  have run : ∀ w', (Builtin.clear_ c.argTypes o.type #[p']).run P w = .ok (.tuple #[]) w' → (execOp a.eval o).run P w = .ok (.value (.tuple #[])) w' := by
    intro w' h
    simp [execOp, hop, resolve, hc, hargs', invoke, builtin, hp', h]
  have vt : VRel m (.tuple #[]) (.tuple #[]) := .tuple _ _ rfl fun i hi => by simp at hi
  unfold xclr at hxa
  split at hxa
  · simp only [Option.some.injEq, Prod.mk.injEq] at hxa
    obtain ⟨rfl, rfl⟩ := hxa
    obtain rfl := flatD_eq 4 _ _ rfl hp
    refine .same hr (v' := .tuple #[]) (run w ?_) vt
    unfold Builtin.clear_
    simp [ht, run_underlying hu]
  · rename_i B off l c
    split at hxa
    · rename_i blk hb
      cases hcond : (!blk.ro && Nat.ble (off + l * sz) blk.cells.length && (rep l zs).all one)
      · simp [hcond] at hxa
      · simp only [hcond, cond_true, Option.some.injEq, Prod.mk.injEq] at hxa
        obtain ⟨rfl, rfl⟩ := hxa
        simp only [Bool.and_eq_true, Bool.not_eq_true', Nat.ble_eq] at hcond
        obtain ⟨⟨hro, hfit⟩, hone⟩ := hcond
        obtain ⟨en, hen, hk⟩ := hr.live B blk hb
        have hrel : LRel m (rep l zs) (rep l zs) := flat_lrel m _ (rep_flat l zs hz3)
        have hrl : (rep l zs).length = l * sz := by rw [rep_length, hzl]
        obtain ⟨ad, c', hpv, haddr⟩ : ∃ ad c', p' = .slice (some ad) l c' ∧ (0 < l → ad = ⟨en.b, en.base + off, none⟩) := by
          cases hp with
          | sl _ _ _ _ c' e' he h0 h1 h2 h3 h4 h5 =>
            obtain rfl : e' = en := by rw [hen] at he; exact (Option.some.inj he).symm
            exact ⟨_, c', rfl, fun _ => rfl⟩
          | sl0 _ _ c' ad e' he h1 h2 h3 => exact ⟨_, c', rfl, fun h => by omega⟩
        rcases Nat.eq_zero_or_pos l with hl0 | hl0
        · subst hl0
          have hr0 : rep 0 zs = [] := rfl
          have hrun := run w (by unfold Builtin.clear_; subst hpv; simp [ht, run_underlying hu])
          rw [hr0]
          have hgeq : ∀ C, (H.set B { blk with cells := splice blk.cells off [] }).get C = H.get C := fun C => by
            rw [AH.get_set, splice_nil]
            by_cases hC : C = B
            · simp [hC, hb]
            · simp [hC]
          have hF : Fut m H w m (H.set B { blk with cells := splice blk.cells off [] }) w := Fut.of_store hb hen (by rw [hk.ro]; exact hro) (fun _ _ => rfl) rfl
          exact ⟨m, _, w, .inl hrun, by simpa [hro] using hr.congr (H' := H.set B { blk with cells := splice blk.cells off [] }) rfl hgeq, by simpa [hro] using hF, vt⟩
        · obtain rfl := haddr hl0
          obtain ⟨w', s1, s2, s3, s4⟩ := run_storeCells_rel (P := P) (rep l zs) (rep l zs) 0 off B blk en H w hr hb hen hro hrel (lrel_one hrel hr hone) (by rw [hrl]; simp only [Nat.add_zero]; omega)
          have hrun := run w' (by
            unfold Builtin.clear_
            subst hpv
            cases l with
            | zero => omega
            | succ l =>
              simp only [ht, Sem.run_bind, run_underlying hu, Result.andThen_ok, hz1, hcz, Sem.run_pure]
              simp [s1, run_underlying hu, hz1, hcz])
          exact ⟨m, _, w', .inl hrun, by simpa [hro] using s2, by simpa [hro] using Fut.of_store (cs := splice blk.cells off (rep l zs)) hb hen (by rw [hk.ro]; exact hro) s3 s4, vt⟩
    · simp at hxa
  · simp at hxa

end Go.Det
