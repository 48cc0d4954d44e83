/- A part of a run of a program on a heap of its own, and that the machine does what that run says: no condition but those that each theorem names. -/
import Derived.Test.YtbkmkelohlmblaaDet3
set_option linter.unusedSimpArgs false
set_option linter.unusedVariables false
namespace Go.Det

variable {P : Program} {G base : Nat} {W0 : World} {m : Mp} {H : AH} {w : World} {fr : Fr} {a : Act}

def OpOk (P : Program) (G base : Nat) (W0 : World) (o : Oper) (a : Act) (w : World) (m : Mp) (H : AH) (v : Value) (H' : AH) : Prop :=
  ∃ m' v' w', ((execOp a.eval o).run P w = .ok (.value v') w' ∨ ((execOp a.eval o).run P w = .ok .skip w' ∧ v' = undef)) ∧
    HRel G base W0 m' H' w' ∧ Fut m H w m' H' w' ∧ VRel m' v v'

theorem OpOk.same {o : Oper} {v v' : Value} (hr : HRel G base W0 m H w) (he : (execOp a.eval o).run P w = .ok (.value v') w) (hv : VRel m v v') : OpOk P G base W0 o a w m H v H :=
  ⟨m, v', w, .inl he, hr, .refl m H w, hv⟩

theorem vrel_undef (m : Mp) : VRel m undef undef := .tuple _ _ rfl fun i hi => by simp at hi

theorem ev_sound (hr : HRel G base W0 m H w) (hf : FrRel m fr a.tmps) {x : Operand} {v : Value} (ho : okOpnd G x = true) (hx : ev fr x = some v) :
    VRel m v (a.eval x) := by
  cases x with
  | tmp t =>
    obtain ⟨v', h1, h2⟩ := hf t v hx
    have : a.eval (.tmp t) = v' := by simp [Act.eval, Array.getD_eq_getD_getElem?, h1]
    rw [this]; exact h2
  | const c =>
    simp only [ev, Option.some.injEq] at hx; subst hx
    exact flatD_refl m 4 c ho
  | global g =>
    simp only [ev, Option.some.injEq] at hx; subst hx
    have hg : g < G := by simpa [okOpnd] using ho
    show VRel m _ (.pointer (some ⟨g, 0, none⟩))
    obtain ⟨e, h1, h2, h3⟩ := hr.glob.2 g hg
    have hp := VRel.ptr (m := m) g 0 e h1
    rw [h2, h3] at hp
    exact hp
  | func f =>
    simp only [ev, Option.some.injEq] at hx; subst hx
    exact .func _ _ _ _ _ rfl (fun i hi => by simp at hi) rfl (fun i hi => by simp at hi)

theorem evs_sound (hr : HRel G base W0 m H w) (hf : FrRel m fr a.tmps) : ∀ (xs : List Operand) (vs : List Value), (∀ x ∈ xs, okOpnd G x = true) → evs fr xs = some vs →
    vs.length = xs.length ∧ ∀ i, i < vs.length → VRel m (vs.getD i undef) ((xs.map a.eval).getD i undef)
  | [], vs, _, h => by simp [evs] at h; subst h; simp
  | x :: xs, vs, ho, h => by
    simp only [evs] at h
    split at h
    · rename_i v vs' hv hvs
      simp only [Option.some.injEq] at h; subst h
      obtain ⟨h1, h2⟩ := evs_sound hr hf xs vs' (fun y hy => ho y (by simp [hy])) hvs
      refine ⟨by simp [h1], fun i hi => ?_⟩
      cases i with
      | zero => simpa using ev_sound hr hf (ho x (by simp)) hv
      | succ i => simpa using h2 i (by simpa using hi)
    · simp at h

theorem getD_toArray (l : List Value) (i : Nat) (d : Value) : l.toArray.getD i d = l.getD i d := by
  simp [Array.getD_eq_getD_getElem?, List.getD_eq_getElem?_getD]

/-- lists of values beside each other -/
def LRel (m : Mp) (xs ys : List Value) : Prop := xs.length = ys.length ∧ ∀ (i : Nat) (x : Value), xs[i]? = some x → ∃ y, ys[i]? = some y ∧ VRel m x y

theorem LRel.mono {m m' : Mp} (hx : m.Ext m') {xs ys : List Value} (h : LRel m xs ys) : LRel m' xs ys :=
  ⟨h.1, fun i x hi => let ⟨y, a, b⟩ := h.2 i x hi; ⟨y, a, b.mono hx⟩⟩

theorem LRel.nil : LRel m [] [] := ⟨rfl, fun i x h => by simp at h⟩

theorem LRel.append {xs ys xs' ys' : List Value} (h : LRel m xs xs') (k : LRel m ys ys') : LRel m (xs ++ ys) (xs' ++ ys') := by
  refine ⟨by simp [h.1, k.1], fun i x hi => ?_⟩
  rw [List.getElem?_append] at hi ⊢
  by_cases hl : i < xs.length
  · rw [if_pos hl] at hi; rw [if_pos (by rw [← h.1]; exact hl)]; exact h.2 i x hi
  · rw [if_neg hl] at hi; rw [if_neg (by rw [← h.1]; exact hl), ← h.1]; exact k.2 _ x hi

theorem LRel.take {xs ys : List Value} (h : LRel m xs ys) (n : Nat) : LRel m (xs.take n) (ys.take n) := by
  refine ⟨by simp [h.1], fun i x hi => ?_⟩
  rw [List.getElem?_take] at hi ⊢
  split at hi
  · rename_i hl; rw [if_pos hl]; exact h.2 i x hi
  · simp at hi

theorem LRel.drop {xs ys : List Value} (h : LRel m xs ys) (n : Nat) : LRel m (xs.drop n) (ys.drop n) := by
  refine ⟨by simp [h.1], fun i x hi => ?_⟩
  rw [List.getElem?_drop] at hi ⊢
  exact h.2 _ x hi

theorem LRel.splice {xs ys vs us : List Value} (h : LRel m xs ys) (k : LRel m vs us) (o : Nat) : LRel m (splice xs o vs) (splice ys o us) := by
  unfold Det.splice
  rw [← k.1]
  exact ((h.take o).append k).append (h.drop _)

theorem LRel.of_agg {xs ys : Array Value} (hs : xs.size = ys.size) (h : ∀ i, i < xs.size → VRel m (xs.getD i undef) (ys.getD i undef)) : LRel m xs.toList ys.toList := by
  refine ⟨by simpa using hs, fun i x hi => ?_⟩
  have hlt : i < xs.size := by
    rcases Nat.lt_or_ge i xs.size with hl | hl
    · exact hl
    · rw [List.getElem?_eq_none (by simpa using hl)] at hi; simp at hi
  have h1 := h i hlt
  have hx : xs.getD i undef = x := by simp [Array.getD_eq_getD_getElem?, Array.getElem?_eq_some_iff.2 ⟨hlt, rfl⟩] ; simpa [List.getElem?_eq_getElem, hlt] using hi
  have hy : i < ys.size := hs ▸ hlt
  refine ⟨ys[i], by simp [hy], ?_⟩
  rw [hx] at h1
  simpa [Array.getD, hy] using h1

theorem LRel.to_agg {xs ys : List Value} (h : LRel m xs ys) : VRel m (.agg xs.toArray) (.agg ys.toArray) := by
  refine .agg _ _ (by simpa using h.1) fun i hi => ?_
  have hi' : i < xs.length := by simpa using hi
  obtain ⟨y, h1, h2⟩ := h.2 i xs[i] (by simp [hi'])
  rw [getD_toArray, getD_toArray]
  simp only [List.getD_eq_getElem?_getD, h1, List.getElem?_eq_getElem hi', Option.getD_some]
  exact h2

theorem LRel.to_tuple {xs ys : List Value} (h : LRel m xs ys) : VRel m (.tuple xs.toArray) (.tuple ys.toArray) := by
  refine .tuple _ _ (by simpa using h.1) fun i hi => ?_
  have hi' : i < xs.length := by simpa using hi
  obtain ⟨y, h1, h2⟩ := h.2 i xs[i] (by simp [hi'])
  rw [getD_toArray, getD_toArray]
  simp only [List.getD_eq_getElem?_getD, h1, List.getElem?_eq_getElem hi', Option.getD_some]
  exact h2

theorem LRel.evs (hr : HRel G base W0 m H w) (hf : FrRel m fr a.tmps) {xs : List Operand} {vs : List Value} (ho : ∀ x ∈ xs, okOpnd G x = true) (h : evs fr xs = some vs) :
    LRel m vs (xs.map a.eval) := by
  obtain ⟨h1, h2⟩ := evs_sound hr hf xs vs ho h
  refine ⟨by simp [h1], fun i x hi => ?_⟩
  have hlt : i < vs.length := by
    rcases Nat.lt_or_ge i vs.length with hl | hl
    · exact hl
    · rw [List.getElem?_eq_none hl] at hi; simp at hi
  have hl2 : i < (xs.map a.eval).length := by simp [← h1, hlt]
  have := h2 i hlt
  simp only [List.getD_eq_getElem?_getD, hi, List.getElem?_eq_getElem hl2, Option.getD_some] at this
  exact ⟨_, List.getElem?_eq_getElem hl2, this⟩

/-- a value's cells -/
theorem vcells_rel {v v' : Value} (h : VRel m v v') : LRel m (vcells v) v'.cells.toList ∧ ((vcells v).all one = true → ∀ x ∈ v'.cells.toList, x.oneCell' = true) := by
  have key : ∀ x y, VRel m x y → one x = true → y.oneCell' = true := by
    intro x y hxy ho
    cases hxy <;> first | rfl | simp [one] at ho
  have single : ∀ x y : Value, VRel m x y → LRel m [x] [y] := fun x y hxy => ⟨rfl, fun i z hi => by
    cases i with
    | zero => simp at hi; subst hi; exact ⟨y, rfl, hxy⟩
    | succ i => simp at hi⟩
  have h' := h
  cases h with
  | agg xs ys hs hx =>
    have hl := LRel.of_agg hs hx
    refine ⟨hl, fun hall y hy => ?_⟩
    simp only [vcells] at hall
    obtain ⟨i, hi⟩ := List.getElem?_of_mem hy
    have hlt : i < xs.toList.length := by
      have := (List.getElem?_eq_some_iff.1 hi).1
      rw [hl.1]; exact this
    obtain ⟨y', h1, h2⟩ := hl.2 i _ (List.getElem?_eq_getElem hlt)
    change ys.toList[i]? = some y at hi
    rw [hi] at h1; simp at h1; subst h1
    exact key _ _ h2 (List.all_eq_true.1 hall _ (List.getElem_mem hlt))
  | _ =>
    refine ⟨single _ _ h', fun hall y hy => ?_⟩
    simp only [vcells, List.all_cons, List.all_nil, Bool.and_true] at hall
    simp [Value.cells] at hy
    subst hy
    first | rfl | (simp [one] at hall)

theorem addr_add (b o n : Nat) : (⟨b, o, none⟩ : Addr).add n = ⟨b, o + n, none⟩ := by
  unfold Addr.add
  split
  · rename_i h; subst h; rfl
  · rfl

theorem splice_nil (cs : List Value) (o : Nat) : splice cs o [] = cs := by simp [splice]

theorem splice_length (cs : List Value) (o : Nat) (vs : List Value) (h : o + vs.length ≤ cs.length) : (splice cs o vs).length = cs.length := by
  simp [splice]; omega

theorem splice_cons (cs : List Value) (o : Nat) (v : Value) (vs : List Value) (h : o + (vs.length + 1) ≤ cs.length) :
    splice (cs.set o v) (o + 1) vs = splice cs o (v :: vs) := by
  unfold splice
  apply List.ext_getElem?
  intro i
  simp only [List.getElem?_append, List.length_append, List.length_take, List.length_set, List.length_cons, List.getElem?_take, List.getElem?_drop, List.getElem?_set, List.getElem?_cons]
  rcases Nat.lt_trichotomy i o with hi | hi | hi
  · simp [show i < o + 1 by omega, show i < min (o + 1) cs.length by omega, show i < min o cs.length by omega, show ¬ o = i by omega, hi, show i < min (o+1) cs.length + vs.length by omega, show i < min o cs.length + (vs.length + 1) by omega]
  · subst hi
    simp [show min i cs.length = i by omega, show min (i + 1) cs.length = i + 1 by omega, show i < i + 1 + vs.length by omega, show i < cs.length by omega]
  · simp only [show min o cs.length = o by omega, show min (o + 1) cs.length = o + 1 by omega, show ¬ i < o by omega, show ¬ i < o + 1 by omega, if_false, show ¬ i - o = 0 by omega]
    by_cases h2 : i < o + 1 + vs.length
    · simp [h2, show i < o + (vs.length + 1) by omega, show i - (o + 1) = i - o - 1 by omega]
    · simp [h2, show ¬ i < o + (vs.length + 1) by omega, show ¬ o = o + 1 + vs.length + (i - (o + 1 + vs.length)) by omega]
      congr 1; omega

theorem run_storeCells_rel : ∀ (vs' vs : List Value) (i o : Nat) (B : Nat) (blk : Blk) (e : Ent) (H : AH) (w : World), HRel G base W0 m H w → H.get B = some blk → m.f B = some e → blk.ro = false →
    LRel m vs vs' → (∀ x ∈ vs', x.oneCell' = true) → o + i + vs.length ≤ blk.cells.length →
    ∃ w', (storeCells ⟨e.b, e.base + o, none⟩ vs' i).run P w = .ok () w' ∧ HRel G base W0 m (H.set B { blk with cells := splice blk.cells (o + i) vs }) w' ∧ (∀ k, k ≠ e.b → w'.heap[k]? = w.heap[k]?) ∧ w'.heap.size = w.heap.size
  | [], vs, i, o, B, blk, e, H, w, hr, hb, he, hro, hl, hone, hlen => by
    obtain rfl : vs = [] := by have := hl.1; simpa using this
    refine ⟨w, by simp [storeCells], ?_, fun _ _ => rfl, rfl⟩
    refine hr.congr rfl fun C => ?_
    rw [AH.get_set, splice_nil]
    by_cases hC : C = B
    · simp [hC, hb]
    · simp [hC]
  | v' :: vs', vs, i, o, B, blk, e, H, w, hr, hb, he, hro, hl, hone, hlen => by
    obtain ⟨v, vs, rfl⟩ : ∃ v us, vs = v :: us := by
      cases vs with
      | nil => have := hl.1; simp at this
      | cons v us => exact ⟨v, us, rfl⟩
    have hv : VRel m v v' := by
      obtain ⟨y, h1, h2⟩ := hl.2 0 v rfl
      simp at h1; subst h1; exact h2
    have hl' : LRel m vs vs' := ⟨by have := hl.1; simpa using this, fun j x hj => by
      obtain ⟨y, h1, h2⟩ := hl.2 (j + 1) x (by simpa using hj)
      exact ⟨y, by simpa using h1, h2⟩⟩
    simp only [List.length_cons] at hlen
    obtain ⟨hr1, ⟨u, hu⟩, hz⟩ := hr.store (o := o + i) hb (by omega) hro he hv
    obtain ⟨w', hw', hr', hk1, hk2⟩ := run_storeCells_rel vs' vs (i + 1) o B { blk with cells := blk.cells.set (o + i) v } e _ _ hr1 (by rw [AH.get_set]; simp) he hro hl'
      (fun x hx => hone x (by simp [hx])) (by simp; omega)
    refine ⟨w', ?_, ?_, fun k hk => by rw [hk1 k hk, setCell_heap_ne _ _ _ _ (by simpa using hk)], by simpa using hk2⟩
    · simp only [storeCells, Sem.run_bind]
      rw [run_store P w _ _ _ (hone v' (by simp)), addr_add]
      have e1 : e.base + o + i = e.base + (o + i) := by omega
      rw [e1, hu]
      simp only [hz, Bool.false_eq_true, if_false, Result.andThen_ok]
      exact hw'
    · refine hr'.congr rfl fun C => ?_
      simp only [AH.get_set]
      by_cases hC : C = B
      · simp only [hC, if_true]
        congr 2
        rw [show o + (i + 1) = o + i + 1 by omega, splice_cons _ _ _ _ (by omega)]
      · simp [hC]

theorem run_loadCells_rel (hr : HRel G base W0 m H w) {B : Nat} {blk : Blk} {e : Ent} (hb : H.get B = some blk) (he : m.f B = some e) (o n : Nat) (hlen : o + n ≤ blk.cells.length) :
    ∃ cs : List Value, (loadCells ⟨e.b, e.base + o, none⟩ n).run P w = .ok cs.toArray w ∧ LRel m ((blk.cells.drop o).take n) cs := by
  have hcell : ∀ j, j < n → ∃ v', w.cell? ⟨e.b, e.base + o + j, none⟩ = some v' ∧ VRel m (blk.cells.getD (o + j) undef) v' := by
    intro j hj
    have hlt : o + j < blk.cells.length := by omega
    obtain ⟨v', h1, h2⟩ := hr.cell hb (List.getElem?_eq_getElem hlt) he
    refine ⟨v', by rw [Nat.add_assoc]; exact h1, ?_⟩
    simpa [List.getD_eq_getElem?_getD, List.getElem?_eq_getElem hlt] using h2
  let g : Nat → Value := fun j => (w.cell? ⟨e.b, e.base + o + j, none⟩).getD undef
  refine ⟨(List.range n).map g, ?_, ?_⟩
  · exact run_loadCells w _ n g fun j hj => by
      obtain ⟨v', h1, _⟩ := hcell j hj
      rw [addr_add, h1]; simp [g, h1]
  · refine ⟨by simp; omega, fun i x hi => ?_⟩
    rw [List.getElem?_take] at hi
    split at hi
    · rename_i hin
      obtain ⟨v', h1, h2⟩ := hcell i hin
      rw [List.getElem?_drop] at hi
      refine ⟨v', by simp [hin, g, h1], ?_⟩
      simpa [List.getD_eq_getElem?_getD, hi] using h2
    · simp at hi

theorem partV_rel {cs cs' : List Value} (h : LRel m cs cs') {off : Nat} {n : Option Nat} {v : Value} (hp : partV cs off n = some v) :
    match n with
    | none => ∃ v', cs'[off]? = some v' ∧ VRel m v v'
    | some k => off + k ≤ cs.length ∧ v = .agg ((cs.drop off).take k).toArray ∧ VRel m v (.agg ((cs'.drop off).take k).toArray) := by
  cases n with
  | none => exact h.2 _ _ hp
  | some k =>
    simp only [partV] at hp
    cases hb : Nat.ble (off + k) cs.length
    · simp [hb] at hp
    · simp only [hb, cond_true, Option.some.injEq] at hp
      subst hp
      exact ⟨by simpa using hb, rfl, ((h.drop off).take k).to_agg⟩

theorem run_isAgg {t : TypeId} {n : Option Nat} (h : aggSize P t = some n) (w : World) :
    (isAgg t).run P w = .ok n.isSome w ∧ ∀ k, n = some k → (sizeOf t).run P w = .ok k w := by
  unfold aggSize at h
  have hsz : ∀ k, sizeAt P t = some k → (sizeOf t).run P w = .ok k w := by
    intro k hk
    unfold sizeAt at hk
    cases hi : P.info? t with
    | none => simp [hi] at hk
    | some i => simp [hi] at hk; subst hk; simp [sizeOf, typeInfo, hi]
  split at h
  · rename_i fs hu
    cases hs : sizeAt P t with
    | none => simp [hs] at h
    | some k =>
      simp [hs] at h; subst h
      exact ⟨by simp [isAgg, underlying, hu], fun j hj => by simp at hj; subst hj; exact hsz _ hs⟩
  · rename_i n e hu
    cases hs : sizeAt P t with
    | none => simp [hs] at h
    | some k =>
      simp [hs] at h; subst h
      exact ⟨by simp [isAgg, underlying, hu], fun j hj => by simp at hj; subst hj; exact hsz _ hs⟩
  · rename_i d h1 h2 hu
    simp at h; subst h
    refine ⟨?_, fun k hk => by simp at hk⟩
    simp only [isAgg, underlying, hu, Sem.run_bind, run_program, Result.andThen_ok]
    cases hd : d <;> simp_all
  · simp at h

theorem run_sizeOf' {t : TypeId} {k : Nat} (h : sizeAt P t = some k) (w : World) : (sizeOf t).run P w = .ok k w := by
  unfold sizeAt at h
  cases hi : P.info? t with
  | none => simp [hi] at h
  | some i => simp [hi] at h; subst h; simp [sizeOf, typeInfo, hi]

theorem run_zero' {t : TypeId} {zs : List Value} (h : zeroAt P t = some zs) (w : World) : (∃ z, (zeroValue t).run P w = .ok z w ∧ z.cells.toList = zs) ∧ ∀ z ∈ zs, flatD 4 z = true := by
  unfold zeroAt at h
  cases hi : P.info? t with
  | none => simp [hi] at h
  | some i =>
    simp only [hi] at h
    cases hz : i.zero with
    | none => simp [hz] at h
    | some z =>
      simp only [hz] at h
      cases hf : (vcells z).all (flatD 4)
      · simp [hf] at h
      · simp [hf] at h; subst h
        exact ⟨⟨z, by simp [zeroValue, typeInfo, hi, hz], by cases z <;> rfl⟩, fun x hx => List.all_eq_true.1 hf x hx⟩

end Go.Det
