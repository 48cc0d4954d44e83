/- A part of a run of a program on a heap of its own, and that the machine does what that run says: no condition but those that each theorem names. -/
import Derived.Test.YtbkmkelohlmblaaDet7
set_option linter.unusedSimpArgs false
set_option linter.unusedVariables false
namespace Go.Det

variable {P : Program} {G base : Nat} {W0 : World} {m : Mp} {H : AH} {w : World} {fr : Fr} {a : Act} {o : Oper}

theorem strCells_flat (s : ByteArray) : ∀ z ∈ strCells s, flatD 4 z = true := by
  intro z hz
  simp only [strCells, List.mem_map] at hz
  obtain ⟨b, _, rfl⟩ := hz
  rfl

theorem run_firstCells (hr : HRel G base W0 m H w) {sz n : Nat} {y y' : Value} {cs : List Value} (hv : VRel m y y') (hs : src H sz n y = some cs) :
    ∃ cs', (Builtin.firstCells sz n y').run P w = .ok cs'.toArray w ∧ LRel m cs cs' ∧ cs.length = n * sz := by
  unfold src at hs
  split at hs
  · cases hn : Nat.beq n 0
    · simp [hn] at hs
    · simp [hn] at hs; subst hs
      have hn0 : n = 0 := Nat.eq_of_beq_eq_true hn
      have : ∃ l c, y' = .slice none l c := by cases hv; exact ⟨_, _, rfl⟩
      obtain ⟨l, c, rfl⟩ := this
      exact ⟨[], by simp [Builtin.firstCells], .nil, by simp [hn0]⟩
  · rename_i B off l c
    split at hs
    · rename_i blk hb
      cases hcond : (Nat.ble n l && Nat.ble (off + n * sz) blk.cells.length && ((blk.cells.drop off).take (n * sz)).all one)
      · simp [hcond] at hs
      · simp only [hcond, cond_true, Option.some.injEq] at hs
        subst hs
        simp only [Bool.and_eq_true, Nat.ble_eq] at hcond
        obtain ⟨hcond, _⟩ := hcond
        obtain ⟨en, hen, hk⟩ := hr.live B blk hb
        rcases Nat.eq_zero_or_pos (n * sz) with h0 | h0
        · have : ∃ ad l' c', y' = .slice (some ad) l' c' := by cases hv <;> exact ⟨_, _, _, rfl⟩
          obtain ⟨ad, l', c', rfl⟩ := this
          exact ⟨[], by simp [Builtin.firstCells, h0, loadCells, loadCellsFrom], by simpa [h0] using LRel.nil, by simp [h0]⟩
        · have hn : 0 < n := Nat.pos_of_mul_pos_right h0
          cases hv with
          | sl _ _ _ _ c' e' he g0 g1 g2 g3 g4 g5 =>
            obtain ⟨cs', h1, h2⟩ := run_loadCells_rel (P := P) hr hb he off (n * sz) hcond.2
            exact ⟨cs', by simp [Builtin.firstCells, h1], h2, by simp; omega⟩
          | sl0 => omega
    · cases hn : Nat.beq n 0
      · simp [hn] at hs
      · simp [hn] at hs; subst hs
        have hn0 : n = 0 := Nat.eq_of_beq_eq_true hn
        subst hn0
        have : ∃ ad l' c', y' = .slice (some ad) l' c' := by cases hv <;> exact ⟨_, _, _, rfl⟩
        obtain ⟨ad, l', c', rfl⟩ := this
        exact ⟨[], by simp [Builtin.firstCells, loadCells, loadCellsFrom], .nil, by simp⟩
  · rename_i s
    cases hcond : (Nat.beq sz 1 && Nat.beq n s.size)
    · simp [hcond] at hs
    · simp only [hcond, cond_true, Option.some.injEq] at hs
      subst hs
      simp only [Bool.and_eq_true] at hcond
      have c1 : sz = 1 := Nat.eq_of_beq_eq_true hcond.1
      have c2 : n = s.size := Nat.eq_of_beq_eq_true hcond.2
      subst c1 c2
      have hq := flatD_eq 4 _ _ rfl hv
      subst hq
      refine ⟨strCells s, ?_, flat_lrel m _ (strCells_flat s), by rw [strCells, List.length_map, Nat.mul_one]; rfl⟩
      have : (s.extract 0 s.size) = s := ByteArray.extract_zero_size
      simp only [Builtin.firstCells, this, Sem.run_pure]
      have h2 : s.data.map (fun b => Value.int .u8 b.toNat) = (strCells s).toArray := by
        apply Array.ext'
        rw [Array.toList_map]; rfl
      rw [h2]
  · simp at hs

theorem src_one {sz n : Nat} {y : Value} {cs : List Value} (hs : src H sz n y = some cs) : cs.all one = true := by
  unfold src at hs
  split at hs
  · cases hn : Nat.beq n 0
    · simp [hn] at hs
    · simp [hn] at hs; subst hs; rfl
  · rename_i B off l c
    split at hs
    · rename_i blk hb
      cases hcond : (Nat.ble n l && Nat.ble (off + n * sz) blk.cells.length && ((blk.cells.drop off).take (n * sz)).all one)
      · simp [hcond] at hs
      · simp only [hcond, cond_true, Option.some.injEq] at hs
        subst hs
        simp only [Bool.and_eq_true] at hcond
        exact hcond.2
    · cases hn : Nat.beq n 0
      · simp [hn] at hs
      · simp [hn] at hs; subst hs; rfl
  · rename_i s
    cases hcond : (Nat.beq sz 1 && Nat.beq n s.size)
    · simp [hcond] at hs
    · simp only [hcond, cond_true, Option.some.injEq] at hs
      subst hs
      refine List.all_eq_true.2 fun z hz => ?_
      simp only [strCells, List.mem_map] at hz
      obtain ⟨b, _, rfl⟩ := hz
      rfl
  · simp at hs

theorem srcLen_run {y y' : Value} {n : Nat} (h : srcLen y = some n) (hv : VRel m y y') (w : World) : (Builtin.lenOf y').run P w = .ok n w := by
  unfold srcLen at h
  split at h
  · simp at h; subst h
    cases hv <;> simp [Builtin.lenOf]
  · simp at h; subst h
    have hq := flatD_eq 4 _ _ rfl hv
    subst hq
    simp [Builtin.lenOf]
  · simp at h

theorem growBy_le (need : Nat) : ∀ (r c : Nat), c < need → 256 ≤ c → Builtin.growBy need r c ≤ 2 * need
  | 0, c, h, h2 => by simp [Builtin.growBy]; omega
  | r + 1, c, h, h2 => by
    simp only [Builtin.growBy]
    split
    · omega
    · by_cases h3 : c + (c + 768) / 4 < need
      · exact growBy_le need r _ h3 (by omega)
      · cases r with
        | zero => simp [Builtin.growBy]; omega
        | succ r =>
          simp only [Builtin.growBy]
          rw [if_pos (by omega)]
          omega

theorem nextcap_le (need old : Nat) (h : old < need) : Builtin.nextslicecap need old ≤ 2 * need := by
  unfold Builtin.nextslicecap
  split
  · omega
  · split
    · omega
    · exact growBy_le need 4 old h (by omega)

/-- stores into one block -/
theorem run_storeCells_blk : ∀ (vs : List Value) (i o b : Nat) (c : Array Value) (t : TypeId) (fz : Nat × Nat) (w : World), w.heap[b]? = some (.cells c t fz) → o + i + vs.length ≤ c.size →
    Thaw fz c.size → (∀ x ∈ vs, x.oneCell' = true) → base ≤ b → Go.RowKit.Below base W0 w →
    ∃ w' c2, (storeCells ⟨b, o, none⟩ vs i).run P w = .ok () w' ∧ w'.heap[b]? = some (.cells c2 t fz) ∧ c2.size = c.size ∧
      (∀ j, c2[j]? = if o + i ≤ j ∧ j < o + i + vs.length then vs[j - (o + i)]? else c[j]?) ∧ (∀ k, k ≠ b → w'.heap[k]? = w.heap[k]?) ∧ w'.heap.size = w.heap.size ∧ Go.RowKit.Below base W0 w'
  | [], i, o, b, c, t, fz, w, hb, hl, hz, ho, hbb, hbel => ⟨w, c, by simp [storeCells], hb, rfl, fun j => by simp; intro h1 h2; omega, fun _ _ => rfl, rfl, hbel⟩
  | v :: vs, i, o, b, c, t, fz, w, hb, hl, hz, ho, hbb, hbel => by
    simp only [List.length_cons] at hl
    have hin : o + i < c.size := by omega
    have hw1 := setCell_heap w ⟨b, o + i, none⟩ rfl v c t fz hb
    obtain ⟨w', c2, h1, h2, h3, h4, h5, h6, h7⟩ := run_storeCells_blk vs (i + 1) o b (c.setIfInBounds (o + i) v) t fz (w.setCell ⟨b, o + i, none⟩ v) hw1 (by simp; omega)
      (by simpa using hz) (fun x hx => ho x (by simp [hx])) hbb (hbel.setCell (p := ⟨b, o + i, none⟩) hbb v)
    refine ⟨w', c2, ?_, h2, by simpa using h3, ?_, ?_, by simpa using h6, h7⟩
    · simp only [storeCells, Sem.run_bind]
      rw [run_store P w _ _ _ (ho v (by simp)), addr_add]
      have hcell : w.cell? ⟨b, o + i, none⟩ = some c[o + i] := by simp [World.cell?, hb, hin]
      have hfr : w.frozen? ⟨b, o + i, none⟩ = false := by
        simp only [World.frozen?, hb]
        have := hz.2 _ hin
        simp only [Bool.and_eq_false_iff, decide_eq_false_iff_not]
        omega
      simp only [hcell, hfr, Bool.false_eq_true, if_false, Result.andThen_ok]
      exact h1
    · intro j
      rw [h4 j]
      by_cases hj : j = o + i
      · subst hj
        rw [if_neg (by omega), if_pos (by simp)]
        simp [hin]
      · by_cases hj2 : o + (i + 1) ≤ j ∧ j < o + (i + 1) + vs.length
        · rw [if_pos hj2, if_pos (by simp; omega)]
          obtain ⟨d, rfl⟩ : ∃ d, j = o + i + 1 + d := ⟨j - (o + i + 1), by omega⟩
          rw [show o + i + 1 + d - (o + (i + 1)) = d by omega, show o + i + 1 + d - (o + i) = d + 1 by omega]
          simp
        · rw [if_neg hj2, if_neg (by simp; omega)]
          rw [Array.getElem?_setIfInBounds_ne (by omega)]
    · intro k hk
      rw [h5 k hk, setCell_heap_ne _ _ _ _ (by simpa using hk)]

/-- a block that goes on under another number -/
theorem HRel.take {B : Nat} {blk : Blk} {e : Ent} (h : HRel G base W0 m H w) (hb : H.get B = some blk) (he : m.f B = some e) (hro : e.ro = false) {w' : World} {c2 : Array Value} {t : TypeId} {fz : Nat × Nat}
    (hw : w'.heap[e.b]? = some (.cells c2 t fz)) (hs : c2.size = e.size) (hfz : Thaw fz c2.size) (ho : ∀ k, k ≠ e.b → w'.heap[k]? = w.heap[k]?) (hsz : w'.heap.size = w.heap.size)
    (hbel : Go.RowKit.Below base W0 w') (hbase : base ≤ e.b) (cs : List Value) (b2 sz : Nat) (hsz0 : 0 < sz) (hlen : b2 + cs.length ≤ e.size)
    (hc : ∀ (i : Nat) (v : Value), cs[i]? = some v → ∃ v', c2[b2 + i]? = some v' ∧ VRel m v v') :
    HRel G base W0 (m.set H.n ⟨e.b, b2, e.size, cs.length, sz, true, false⟩) ((H.kill B).push ⟨cs, sz, true, false⟩) w' ∧
    Fut m H w (m.set H.n ⟨e.b, b2, e.size, cs.length, sz, true, false⟩) ((H.kill B).push ⟨cs, sz, true, false⟩) w' := by
  have hext := m.ext_set ⟨e.b, b2, e.size, cs.length, sz, true, false⟩ h.fresh
  have hother : ∀ C blk2 e2, C ≠ B → H.get C = some blk2 → m.f C = some e2 → e2.b ≠ e.b := by
    intro C blk2 e2 hCB hC hC2 x
    exact h.apart B C blk blk2 e e2 hb hC he hC2 (fun y => hCB y.symm) hro x.symm
  have hget : ∀ C b, C ≠ H.n → ((H.kill B).push ⟨cs, sz, true, false⟩).get C = some b → C ≠ B ∧ H.get C = some b := by
    intro C b hCn hC
    rw [AH.get_push] at hC
    have hCn' : ¬ C = (H.kill B).n := hCn
    rw [if_neg hCn', AH.get_kill] at hC
    by_cases hCB : C = B
    · simp [hCB] at hC
    · exact ⟨hCB, by simpa [hCB] using hC⟩
  have hgetn : ((H.kill B).push ⟨cs, sz, true, false⟩).get H.n = some ⟨cs, sz, true, false⟩ := by
    rw [AH.get_push]; simp
  have hblt := h.b_lt hb he
  refine ⟨{ below := hbel, bs := by rw [hsz]; exact h.bs, dom := ?_, apart := ?_, glob := ?_, live := ?_ }, ?_⟩
  · intro C blk' hC
    by_cases hCn : C = H.n
    · subst hCn
      rw [hgetn] at hC; cases hC
      refine ⟨⟨e.b, b2, e.size, cs.length, sz, true, false⟩, by simp [Mp.set], { kn := rfl, sz := rfl, opn := rfl, ro := rfl, at_ := ⟨c2, t, fz, hw, hs, hlen, ?_, fun _ => ⟨hbase, hfz⟩⟩ }⟩
      intro i v hi
      obtain ⟨v', g1, g2⟩ := hc i v hi
      exact ⟨v', g1, g2.mono hext⟩
    · obtain ⟨hCB, hC'⟩ := hget C blk' hCn hC
      obtain ⟨e2, he2, hk2⟩ := h.live C blk' hC'
      refine ⟨e2, by simp [Mp.set, hCn, he2], { kn := hk2.kn, sz := hk2.sz, opn := hk2.opn, ro := hk2.ro, at_ := ?_ }⟩
      obtain ⟨c', t', fz', g0, g1, g2, g3, g4⟩ := hk2.at_
      exact ⟨c', t', fz', by rw [ho _ (hother C blk' e2 hCB hC' he2)]; exact g0, g1, g2, (fun i v hi => let ⟨v', x, y⟩ := g3 i v hi; ⟨v', x, y.mono hext⟩), g4⟩
  · intro C e2 he2
    simp only [Mp.set] at he2
    by_cases hCn : C = H.n
    · simp [hCn] at he2; subst he2; simp [hCn, hsz0]
    · simp [hCn] at he2; have := h.dom C e2 he2; exact ⟨by simp; omega, this.2⟩
  · intro C C' b1 b2' e1 e2 g1 g2 h1 h2 hne hro'
    simp only [Mp.set] at h1 h2
    by_cases hCn : C = H.n
    · by_cases hCn' : C' = H.n
      · omega
      · simp [hCn] at h1; simp [hCn'] at h2; subst h1
        obtain ⟨k1, k2⟩ := hget C' b2' hCn' g2
        exact (hother C' b2' e2 k1 k2 h2).symm
    · simp [hCn] at h1
      obtain ⟨k1, k2⟩ := hget C b1 hCn g1
      by_cases hCn' : C' = H.n
      · simp [hCn'] at h2; subst h2
        exact hother C b1 e1 k1 k2 h1
      · simp [hCn'] at h2
        obtain ⟨k3, k4⟩ := hget C' b2' hCn' g2
        exact h.apart C C' b1 b2' e1 e2 k2 k4 h1 h2 hne hro'
  · refine ⟨Nat.le_trans h.glob.1 (by simp), fun g hg => ?_⟩
    have hgn : ¬ g = H.n := by have := h.glob.1; omega
    simp only [Mp.set, hgn, if_false]
    exact h.glob.2 g hg
  · refine ⟨hext, Nat.le_of_eq hsz.symm, by simp, fun k hk hn => ⟨ho k (fun x => hn ⟨B, blk, e, hb, he, hro, x.symm⟩), ?_⟩, fun C hC => ?_, fun k hk hn => ?_⟩
    rotate_left 2
    · rintro ⟨C, b1, e1, g1, g2, g4⟩
      simp only [Mp.set] at g2
      by_cases hCn : C = H.n
      · simp [hCn] at g2; subst g2
        exact hn ⟨B, blk, e, hb, he, g4⟩
      · simp [hCn] at g2
        obtain ⟨k1, k2⟩ := hget C b1 hCn g1
        exact hn ⟨C, b1, e1, k2, g2, g4⟩
    · rintro ⟨C, b1, e1, g1, g2, g3, g4⟩
      simp only [Mp.set] at g2
      by_cases hCn : C = H.n
      · simp [hCn] at g2; subst g2
        exact hn ⟨B, blk, e, hb, he, hro, g4⟩
      · simp [hCn] at g2
        obtain ⟨k1, k2⟩ := hget C b1 hCn g1
        exact hn ⟨C, b1, e1, k2, g2, g3, g4⟩
    · have hCn : ¬ C = H.n := by omega
      refine ⟨by simp [Mp.set, hCn], fun x => ?_⟩
      have hCn' : ¬ C = (H.kill B).n := hCn
      rw [AH.get_push, if_neg hCn', AH.get_kill]
      by_cases hCB : C = B
      · simp [hCB]
      · simp [hCB, x]

theorem zeroCells_len (z : Array Value) (n : Nat) : (Builtin.zeroCells z n).size = n * z.size := by simp [Builtin.zeroCells]

theorem cellOne (hr : HRel G base W0 m H w) {v v' : Value} (h : VRel m v v') (ho : one v = true) : v'.oneCell' = true := by
  cases h <;> first | rfl | simp [one] at ho

theorem lrel_one {xs ys : List Value} (h : LRel m xs ys) (hr : HRel G base W0 m H w) (ho : xs.all one = true) : ∀ y ∈ ys, y.oneCell' = true := by
  intro y hy
  obtain ⟨i, hi⟩ := List.getElem?_of_mem hy
  have hlt : i < xs.length := by rw [h.1]; exact (List.getElem?_eq_some_iff.1 hi).1
  obtain ⟨y', h1, h2⟩ := h.2 i _ (List.getElem?_eq_getElem hlt)
  rw [hi] at h1; simp at h1; subst h1
  exact cellOne hr h2 (List.all_eq_true.1 ho _ (List.getElem_mem hlt))

/-- the run of append where there is room -/
theorem run_app_room {t e u : TypeId} {sz n l c' : Nat} {d : TypeDesc} {p : Option Addr} {y' : Value} {cs' : List Value} {w' : World} {args : Array Value} {argTypes : Array TypeId} {ty : TypeId}
    (ht : argTypes[0]? = some t) (hu' : argTypes[1]? = some u) (ha0 : args[0]? = some (.slice p l c')) (ha1 : args[1]? = some y')
    (hu : P.underlying t = some (.slice e)) (hd : P.underlying u = some d) (hd2 : ∀ k, d ≠ .int k) (hs : sizeAt P e = some sz) (hn : (Builtin.lenOf y').run P w = .ok n w)
    (hc : (Builtin.firstCells sz n y').run P w = .ok cs'.toArray w) (hroom : l + n ≤ c') (hst : ∀ ad, p = some ad → (storeCells (ad.add (l * sz)) cs').run P w = .ok () w') (hnone : p = none → w' = w) :
    (Builtin.append_ argTypes ty args).run P w = .ok (.slice p (l + n) c') w' := by
  have hnint : (match d with | .int _ => true | _ => false) = false := by cases d <;> first | rfl | (exact absurd rfl (hd2 _))
  unfold Builtin.append_
  simp only [ht, ha0, ha1, hu', Sem.run_bind, run_underlying hu, Result.andThen_ok, run_sizeOf' hs, run_underlying hd, Sem.run_pure, hnint, Bool.false_eq_true, if_false, hn, hroom, if_true]
  cases p with
  | none => simp [hc, hnone rfl]
  | some ad => simp [hc, hst ad rfl]

theorem run_app_grow {t e u : TypeId} {sz n l c' : Nat} {d : TypeDesc} {p : Option Addr} {y' : Value} {cs' olds : List Value} {args : Array Value} {argTypes : Array TypeId} {ty : TypeId} {i : TypeInfo} {z : Value}
    (ht : argTypes[0]? = some t) (hu' : argTypes[1]? = some u) (ha0 : args[0]? = some (.slice p l c')) (ha1 : args[1]? = some y')
    (hu : P.underlying t = some (.slice e)) (hd : P.underlying u = some d) (hd2 : ∀ k, d ≠ .int k) (hi : P.info? e = some i) (hsz : i.size = sz) (hb1 : 1 ≤ i.bytes) (hn : (Builtin.lenOf y').run P w = .ok n w)
    (hc : (Builtin.firstCells sz n y').run P w.drew = .ok cs'.toArray w.drew) (hroom : ¬ l + n ≤ c') (hold : (Builtin.firstCells sz l (.slice p l c')).run P w.drew = .ok olds.toArray w.drew)
    (hz : (zeroValue e).run P w.drew = .ok z w.drew) (hbytes : (l + n) * i.bytes ≤ 140737488355328) :
    ∃ nc, l + n ≤ nc ∧ (Builtin.append_ argTypes ty args).run P w =
      .ok (.slice (some ⟨w.heap.size, 0, none⟩) (l + n) nc) { w with drawn := w.drawn + 1, heap := w.heap.push (.cells (olds.toArray ++ cs'.toArray ++ Builtin.zeroCells z.cells (nc - (l + n))) e (0, 0)) } := by
  have hnint : (match d with | .int _ => true | _ => false) = false := by cases d <;> first | rfl | (exact absurd rfl (hd2 _))
  have hbig : ¬ (Builtin.nextslicecap (l + n) c' * i.bytes > 2 ^ 48) := by
    have h1 := nextcap_le (l + n) c' (by omega)
    have h2 : Builtin.nextslicecap (l + n) c' * i.bytes ≤ 2 * (l + n) * i.bytes := Nat.mul_le_mul_right _ h1
    rw [Nat.mul_assoc] at h2
    omega
  have hb0 : ¬ i.bytes = 0 := by omega
  refine ⟨(Question.appendCap (l + n) c' e).cut (w.tape w.drawn (Question.appendCap (l + n) c' e)), by simp [Question.cut], ?_⟩
  unfold Builtin.append_
  have hsO : (sizeOf e).run P w = .ok sz w := by simp [sizeOf, typeInfo, hi, hsz]
  simp only [ht, ha0, ha1, hu', Sem.run_bind, run_underlying hu, Result.andThen_ok, hsO, run_underlying hd, Sem.run_pure, hnint, Bool.false_eq_true, if_false, hn, hroom, typeInfo, run_program, hi, hb0, false_or,
    hbig, or_self, and_false, run_choose, Question.forced, run_askRoom]
  simp only [World.drew] at hold hc hz
  simp only [hold, hc, hz, Result.andThen_ok, newRow, Sem.run_bind, run_newObj, Sem.run_pure, Bool.not_false, if_true]


/-- a block that is marked as bytes of a text: the cell behind its last is frozen -/
theorem HRel.mark {B : Nat} {blk : Blk} {e : Ent} (h : HRel G base W0 m H w) (hb : H.get B = some blk) (he : m.f B = some e) (hro : blk.ro = false) (l : Addr) (hl : l.block = e.b) :
    ∃ w', (markStringish l).run P w = .ok () w' ∧ HRel G base W0 m H w' ∧ Fut m H w m H w' := by
  obtain ⟨e', he', hk⟩ := h.live B blk hb
  rw [he] at he'; cases he'
  have hero : e.ro = false := by rw [hk.ro]; exact hro
  obtain ⟨c, t, fz, hw, hs, hlen, hc, hf⟩ := hk.at_
  obtain ⟨hbase, hth⟩ := hf hero
  have hblt := h.b_lt hb he
  let fz' : Nat × Nat := if fz.1 == fz.2 then (c.size, c.size + 1) else (min fz.1 c.size, max fz.2 (c.size + 1))
  let w' : World := w.freeze ⟨e.b, c.size, none⟩ 1
  have hheap : w'.heap = w.heap.modify e.b fun
      | .cells c0 elem (lo, hi) => .cells c0 elem (if lo == hi then (c.size, c.size + 1) else (min lo c.size, max hi (c.size + 1)))
      | o => o := rfl
  have hself : w'.heap[e.b]? = some (.cells c t fz') := by
    rw [hheap, Array.getElem?_modify, if_pos rfl, hw]; rfl
  have hother : ∀ k, k ≠ e.b → w'.heap[k]? = w.heap[k]? := by
    intro k hk'
    rw [hheap, Array.getElem?_modify, if_neg (fun x => hk' x.symm)]
  have hsize : w'.heap.size = w.heap.size := by rw [hheap, Array.size_modify]
  have hth' : Thaw fz' c.size := by
    show Thaw (if fz.1 == fz.2 then (c.size, c.size + 1) else (min fz.1 c.size, max fz.2 (c.size + 1))) c.size
    split
    · exact ⟨by simp, fun o ho => by simp; omega⟩
    · rename_i hne
      have hne' : fz.1 ≠ fz.2 := by simpa using hne
      have hle : c.size ≤ fz.1 := by
        rcases Nat.lt_or_ge fz.1 c.size with hlt | hge
        · exact absurd ⟨Nat.le_refl _, by have := hth.1; omega⟩ (hth.2 fz.1 hlt)
        · exact hge
      exact ⟨by simp; omega, fun o ho => by simp; omega⟩
  refine ⟨w', ?_, ?_, ?_⟩
  · unfold markStringish
    have hsh : w.shape? e.b = some (t, c.size) := by simp [World.shape?, hw]
    simp only [Sem.run_bind, run_shape, Result.andThen_ok, hl, hsh, run_freeze]
    rfl
  · refine { below := ?_, bs := by rw [hsize]; exact h.bs, dom := h.dom, apart := h.apart, glob := h.glob, live := ?_ }
    · refine ⟨h.below.os, h.below.tape, h.below.output, by rw [hsize]; exact h.below.size, fun k hk' => ?_⟩
      rw [hother k (by omega)]; exact h.below.block k hk'
    · intro C b2 hC
      obtain ⟨e2, he2, hk2⟩ := h.live C b2 hC
      refine ⟨e2, he2, { kn := hk2.kn, sz := hk2.sz, opn := hk2.opn, ro := hk2.ro, at_ := ?_ }⟩
      obtain ⟨c', t', fz2, g0, g1, g2, g3, g4⟩ := hk2.at_
      by_cases hCB : C = B
      · subst hCB
        rw [he] at he2; cases he2
        rw [hb] at hC; cases hC
        exact ⟨c, t, fz', hself, hs, hlen, hc, fun _ => ⟨hbase, hth'⟩⟩
      · have hne : e2.b ≠ e.b := fun x => h.apart B C blk b2 e e2 hb hC he he2 (fun y => hCB y.symm) hero x.symm
        exact ⟨c', t', fz2, by rw [hother _ hne]; exact g0, g1, g2, g3, g4⟩
  · exact ⟨.refl m, Nat.le_of_eq hsize.symm, Nat.le_refl _, fun k hk' hn => ⟨hother k (fun x => hn ⟨B, blk, e, hb, he, hero, x.symm⟩), hn⟩, fun _ _ => ⟨rfl, id⟩, fun _ _ hn => hn⟩

end Go.Det
