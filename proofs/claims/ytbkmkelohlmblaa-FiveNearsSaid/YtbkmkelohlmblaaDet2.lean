/- A part of a run of a program on a heap of its own, and that the machine does what that run says: no condition but those that each theorem names. -/
import Derived.Test.YtbkmkelohlmblaaDet1
import Derived.Laws.Cells
set_option linter.unusedSimpArgs false
set_option linter.unusedVariables false
namespace Go.Det

/-- the cells of a block are not frozen -/
def Thaw (fz : Nat × Nat) (n : Nat) : Prop := fz.1 ≤ fz.2 ∧ ∀ o, o < n → ¬ (fz.1 ≤ o ∧ o < fz.2)

structure BlkAt (m : Mp) (base : Nat) (blk : Blk) (e : Ent) (w : World) : Prop where
  kn : e.kn = blk.cells.length
  sz : e.sz = blk.sz
  opn : e.opn = blk.opn
  ro : e.ro = blk.ro
  at_ : ∃ (c : Array Value) (t : TypeId) (fz : Nat × Nat), w.heap[e.b]? = some (.cells c t fz) ∧ c.size = e.size ∧ e.base + e.kn ≤ e.size ∧
    (∀ i v, blk.cells[i]? = some v → ∃ v', c[e.base + i]? = some v' ∧ VRel m v v') ∧
    (e.ro = false → base ≤ e.b ∧ Thaw fz c.size)

structure HRel (G base : Nat) (W0 : World) (m : Mp) (H : AH) (w : World) : Prop where
  below : Go.RowKit.Below base W0 w
  bs : base ≤ w.heap.size
  live : ∀ B blk, H.get B = some blk → ∃ e, m.f B = some e ∧ BlkAt m base blk e w
  dom : ∀ B e, m.f B = some e → B < H.n ∧ 0 < e.sz
  apart : ∀ B B' blk blk' e e', H.get B = some blk → H.get B' = some blk' → m.f B = some e → m.f B' = some e' → B ≠ B' → e.ro = false → e.b ≠ e'.b
  glob : G ≤ H.n ∧ ∀ g, g < G → ∃ e, m.f g = some e ∧ e.b = g ∧ e.base = 0

/-- a block of the machine that ours may write -/
def InIm (m : Mp) (H : AH) (k : Nat) : Prop := ∃ B blk e, H.get B = some blk ∧ m.f B = some e ∧ e.ro = false ∧ e.b = k

/-- a block of the machine that ours stands for -/
def InAll (m : Mp) (H : AH) (k : Nat) : Prop := ∃ B blk e, H.get B = some blk ∧ m.f B = some e ∧ e.b = k

structure Fut (m : Mp) (H : AH) (w : World) (m' : Mp) (H' : AH) (w' : World) : Prop where
  ext : m.Ext m'
  size : w.heap.size ≤ w'.heap.size
  n : H.n ≤ H'.n
  keep : ∀ k, k < w.heap.size → ¬ InIm m H k → w'.heap[k]? = w.heap[k]? ∧ ¬ InIm m' H' k
  old : ∀ B, B < H.n → m'.f B = m.f B ∧ (H.get B = none → H'.get B = none)
  all : ∀ k, k < w.heap.size → ¬ InAll m H k → ¬ InAll m' H' k

variable {G base : Nat} {W0 : World} {m : Mp} {H : AH} {w : World}

theorem Fut.refl (m : Mp) (H : AH) (w : World) : Fut m H w m H w :=
  ⟨.refl m, Nat.le_refl _, Nat.le_refl _, fun _ _ h => ⟨rfl, h⟩, fun _ _ => ⟨rfl, id⟩, fun _ _ h => h⟩

theorem Fut.trans {m1 m2 m3 : Mp} {H1 H2 H3 : AH} {w1 w2 w3 : World} (h : Fut m1 H1 w1 m2 H2 w2) (k : Fut m2 H2 w2 m3 H3 w3) : Fut m1 H1 w1 m3 H3 w3 :=
  ⟨h.ext.trans k.ext, Nat.le_trans h.size k.size, Nat.le_trans h.n k.n, fun i hi hn => by
    obtain ⟨a, b⟩ := h.keep i hi hn
    obtain ⟨c, d⟩ := k.keep i (Nat.lt_of_lt_of_le hi h.size) b
    exact ⟨c.trans a, d⟩, fun B hB => by
    obtain ⟨a, b⟩ := h.old B hB
    obtain ⟨c, d⟩ := k.old B (Nat.lt_of_lt_of_le hB h.n)
    exact ⟨c.trans a, fun x => d (b x)⟩, fun i hi hn => k.all i (Nat.lt_of_lt_of_le hi h.size) (h.all i hi hn)⟩

theorem HRel.drew (h : HRel G base W0 m H w) : HRel G base W0 m H w.drew :=
  { below := h.below.drew, bs := h.bs, dom := h.dom, apart := h.apart, glob := h.glob
    live := fun B blk hb => let ⟨e, he, hk⟩ := h.live B blk hb; ⟨e, he, { kn := hk.kn, sz := hk.sz, opn := hk.opn, ro := hk.ro, at_ := hk.at_ }⟩ }

theorem Fut.drew (m : Mp) (H : AH) (w : World) : Fut m H w m H w.drew :=
  ⟨.refl m, Nat.le_refl _, Nat.le_refl _, fun _ _ h => ⟨rfl, h⟩, fun _ _ => ⟨rfl, id⟩, fun _ _ h => h⟩

theorem HRel.congr {H' : AH} (h : HRel G base W0 m H w) (hn : H'.n = H.n) (hg : ∀ B, H'.get B = H.get B) : HRel G base W0 m H' w :=
  { below := h.below, bs := h.bs, live := fun B blk hb => h.live B blk (by rw [← hg]; exact hb), dom := fun B e he => by rw [hn]; exact h.dom B e he
    apart := fun B B' blk blk' e e' h1 h2 => h.apart B B' blk blk' e e' (by rw [← hg]; exact h1) (by rw [← hg]; exact h2), glob := by rw [hn]; exact h.glob }

theorem HRel.lt (h : HRel G base W0 m H w) {B : Nat} {blk : Blk} (hb : H.get B = some blk) : B < H.n := by
  obtain ⟨e, he, _⟩ := h.live B blk hb
  exact (h.dom B e he).1

theorem HRel.b_lt (h : HRel G base W0 m H w) {B : Nat} {blk : Blk} {e : Ent} (hb : H.get B = some blk) (he : m.f B = some e) : e.b < w.heap.size := by
  obtain ⟨e', he', hk⟩ := h.live B blk hb
  rw [he] at he'; cases he'
  obtain ⟨c', t', fz', hw, _⟩ := hk.at_
  rcases Nat.lt_or_ge e.b w.heap.size with hl | hl
  · exact hl
  · rw [Array.getElem?_eq_none hl] at hw; simp at hw

/-- the known cell of a block, in the world -/
theorem HRel.cell (h : HRel G base W0 m H w) {B o : Nat} {blk : Blk} {v : Value} (hb : H.get B = some blk) (ho : blk.cells[o]? = some v) {e : Ent} (he : m.f B = some e) :
    ∃ v', w.cell? ⟨e.b, e.base + o, none⟩ = some v' ∧ VRel m v v' := by
  obtain ⟨e', he', hk⟩ := h.live B blk hb
  rw [he] at he'; cases he'
  obtain ⟨c, t, fz, hw, hs, hl, hc, hf⟩ := hk.at_
  obtain ⟨v', h1, h2⟩ := hc o v ho
  exact ⟨v', by simp [World.cell?, hw, h1], h2⟩

/-- the pointer to a live block -/
theorem VRel.live_ptr (h : HRel G base W0 m H w) {B o : Nat} {blk : Blk} {x : Value} (hb : H.get B = some blk) (hx : VRel m (.pointer (some ⟨B, o, none⟩)) x) :
    ∃ e, m.f B = some e ∧ BlkAt m base blk e w ∧ x = .pointer (some ⟨e.b, e.base + o, none⟩) := by
  obtain ⟨e, he, hk⟩ := h.live B blk hb
  cases hx with
  | ptr _ _ e' he' =>
    rw [he] at he'; cases he'
    exact ⟨e, he, hk, rfl⟩

theorem setCell_heap (w : World) (a : Addr) (ha : a.spot = none) (v : Value) (c : Array Value) (t : TypeId) (fz : Nat × Nat) (h : w.heap[a.block]? = some (.cells c t fz)) :
    (w.setCell a v).heap[a.block]? = some (.cells (c.setIfInBounds a.off v) t fz) := by
  simp [World.setCell, Array.getElem?_modify, h, ha]

theorem setCell_heap_ne (w : World) (a : Addr) (v : Value) (k : Nat) (hk : k ≠ a.block) : (w.setCell a v).heap[k]? = w.heap[k]? := by
  simp only [World.setCell, Array.getElem?_modify]
  rw [if_neg (fun e => hk e.symm)]

theorem InIm.set {B : Nat} {blk : Blk} {cs : List Value} (hb : H.get B = some blk) {k : Nat} (h : InIm m (H.set B { blk with cells := cs }) k) : InIm m H k := by
  obtain ⟨C, blk', e, h1, h2, h3, h4⟩ := h
  rw [AH.get_set] at h1
  by_cases hC : C = B
  · subst hC; exact ⟨C, blk, e, hb, h2, h3, h4⟩
  · simp [hC] at h1; exact ⟨C, blk', e, h1, h2, h3, h4⟩

/-- a store into a known cell -/
theorem HRel.store (h : HRel G base W0 m H w) {B o : Nat} {blk : Blk} {v v' : Value} (hb : H.get B = some blk) (ho : o < blk.cells.length) (hro : blk.ro = false)
    {e : Ent} (he : m.f B = some e) (hv : VRel m v v') :
    HRel G base W0 m (H.set B { blk with cells := blk.cells.set o v }) (w.setCell ⟨e.b, e.base + o, none⟩ v') ∧
    (∃ u, w.cell? ⟨e.b, e.base + o, none⟩ = some u) ∧ w.frozen? ⟨e.b, e.base + o, none⟩ = false := by
  obtain ⟨e', he', hk⟩ := h.live B blk hb
  rw [he] at he'; cases he'
  obtain ⟨c, t, fz, hw, hs, hl, hc, hf⟩ := hk.at_
  have hero : e.ro = false := by rw [hk.ro]; exact hro
  obtain ⟨hbase, hnf⟩ := hf hero
  have hin : e.base + o < c.size := by rw [hs]; have := hk.kn; omega
  refine ⟨?_, ?_, ?_⟩
  · refine { below := h.below.setCell (p := ⟨e.b, e.base + o, none⟩) hbase _, bs := by simpa using h.bs, dom := h.dom, apart := ?_, glob := h.glob, live := ?_ }
    · intro B' blk' hb'
      rw [AH.get_set] at hb'
      by_cases hB : B' = B
      · subst hB
        simp at hb'; subst hb'
        refine ⟨e, he, { kn := by simpa using hk.kn, sz := hk.sz, opn := hk.opn, ro := hk.ro, at_ := ?_ }⟩
        refine ⟨_, t, fz, setCell_heap w ⟨e.b, e.base + o, none⟩ rfl v' c t fz hw, by simpa using hs, hl, ?_, ?_⟩
        · intro i u hi
          rw [List.getElem?_set] at hi
          by_cases hio : o = i
          · subst hio
            simp [ho] at hi; subst hi
            exact ⟨v', by simp [hin], hv⟩
          · simp [hio] at hi
            obtain ⟨u', h1, h2⟩ := hc i u hi
            refine ⟨u', ?_, h2⟩
            rw [Array.getElem?_setIfInBounds_ne (by simpa using hio)]; exact h1
        · intro _; exact ⟨hbase, by simpa using hnf⟩
      · simp [hB] at hb'
        obtain ⟨e2, he2, hk2⟩ := h.live B' blk' hb'
        have hne : e2.b ≠ e.b := fun x => h.apart B B' blk blk' e e2 hb hb' he he2 (fun y => hB y.symm) hero x.symm
        refine ⟨e2, he2, { kn := hk2.kn, sz := hk2.sz, opn := hk2.opn, ro := hk2.ro, at_ := ?_ }⟩
        rw [setCell_heap_ne _ _ _ _ (by simpa using hne)]
        exact hk2.at_
    · intro C C' b1 b2 e1 e2 h1 h2 g1 g2 hne hro1
      have key : ∀ C b, (H.set B { blk with cells := blk.cells.set o v }).get C = some b → ∃ b', H.get C = some b' := by
        intro C b hC
        rw [AH.get_set] at hC
        by_cases hCB : C = B
        · subst hCB; exact ⟨blk, hb⟩
        · simp [hCB] at hC; exact ⟨b, hC⟩
      obtain ⟨b1', k1⟩ := key _ _ h1
      obtain ⟨b2', k2⟩ := key _ _ h2
      exact h.apart C C' b1' b2' e1 e2 k1 k2 g1 g2 hne hro1
  · exact ⟨c[e.base + o], by simp [World.cell?, hw, hin]⟩
  · simp only [World.frozen?, hw]
    have := hnf.2 _ hin
    simp only [Bool.and_eq_false_iff, decide_eq_false_iff_not]
    omega

/-- what a store leaves as it was -/
theorem Fut.of_store {B : Nat} {blk : Blk} {cs : List Value} {e : Ent} {w' : World} (hb : H.get B = some blk) (he : m.f B = some e) (hero : e.ro = false) (ho : ∀ k, k ≠ e.b → w'.heap[k]? = w.heap[k]?) (hs : w'.heap.size = w.heap.size) :
    Fut m H w m (H.set B { blk with cells := cs }) w' :=
  ⟨.refl m, Nat.le_of_eq hs.symm, Nat.le_refl _, fun k _ hn => ⟨ho k (fun x => hn ⟨B, blk, e, hb, he, hero, x.symm⟩), fun x => hn (InIm.set hb x)⟩, fun C _ => ⟨rfl, fun hC => by
    rw [AH.get_set]
    by_cases hCB : C = B
    · subst hCB; rw [hb] at hC; simp at hC
    · simp [hCB, hC]⟩, fun k _ hn => fun ⟨C, b2, e2, g1, g2, g3⟩ => hn (by
    rw [AH.get_set] at g1
    by_cases hCB : C = B
    · subst hCB; exact ⟨C, blk, e2, hb, g2, g3⟩
    · simp [hCB] at g1; exact ⟨C, b2, e2, g1, g2, g3⟩)⟩

/-- a new block -/
def Mp.set (m : Mp) (B : Nat) (e : Ent) : Mp := ⟨fun C => if C = B then some e else m.f C⟩

theorem Mp.ext_set {m : Mp} {B : Nat} (e : Ent) (h : m.f B = none) : m.Ext (m.set B e) := fun C e' hC => by
  by_cases hCB : C = B
  · subst hCB; rw [h] at hC; simp at hC
  · simp [Mp.set, hCB, hC]

theorem HRel.fresh (h : HRel G base W0 m H w) : m.f H.n = none := by
  cases hf : m.f H.n with
  | none => rfl
  | some e => have := (h.dom H.n e hf).1; omega

theorem HRel.push (h : HRel G base W0 m H w) (cs : List Value) (c : Array Value) (t : TypeId) (fz : Nat × Nat) (sz : Nat) (opn ro : Bool) (hsz : 0 < sz)
    (hlen : cs.length ≤ c.size) (hc : ∀ (i : Nat) (v : Value), cs[i]? = some v → ∃ v', c[i]? = some v' ∧ VRel m v v')
    (hfz : Thaw fz c.size) :
    HRel G base W0 (m.set H.n ⟨w.heap.size, 0, c.size, cs.length, sz, opn, ro⟩) (H.push ⟨cs, sz, opn, ro⟩) { w with heap := w.heap.push (.cells c t fz) } ∧
    Fut m H w (m.set H.n ⟨w.heap.size, 0, c.size, cs.length, sz, opn, ro⟩) (H.push ⟨cs, sz, opn, ro⟩) { w with heap := w.heap.push (.cells c t fz) } := by
  have hext := m.ext_set ⟨w.heap.size, 0, c.size, cs.length, sz, opn, ro⟩ h.fresh
  have hheap : ∀ k, k < w.heap.size → (w.heap.push (.cells c t fz))[k]? = w.heap[k]? := fun k hk => by rw [Array.getElem?_push, if_neg (by omega)]
  refine ⟨{ below := (h.below.alloc h.bs _), bs := by simpa using Nat.le_succ_of_le h.bs, dom := ?_, apart := ?_, glob := ?_, live := ?_ }, ?_⟩
  · intro B blk hb
    rw [AH.get_push] at hb
    by_cases hB : B = H.n
    · subst hB
      simp at hb; subst hb
      refine ⟨⟨w.heap.size, 0, c.size, cs.length, sz, opn, ro⟩, by simp [Mp.set], { kn := rfl, sz := rfl, opn := rfl, ro := rfl, at_ := ⟨c, t, fz, by simp, rfl, by simpa using hlen, ?_, fun _ => ⟨h.bs, hfz⟩⟩ }⟩
      intro i v hi
      obtain ⟨v', h1, h2⟩ := hc i v hi
      exact ⟨v', by simpa using h1, h2.mono hext⟩
    · simp [hB] at hb
      obtain ⟨e, he, hk⟩ := h.live B blk hb
      refine ⟨e, by simp [Mp.set, hB, he], { kn := hk.kn, sz := hk.sz, opn := hk.opn, ro := hk.ro, at_ := ?_ }⟩
      have hl := h.b_lt hb he
      obtain ⟨c', t', fz', hw, h1, h2, h3, h4⟩ := hk.at_
      exact ⟨c', t', fz', by rw [hheap _ hl]; exact hw, h1, h2, fun i v hi => let ⟨v', a, b⟩ := h3 i v hi; ⟨v', a, b.mono hext⟩, h4⟩
  · intro B e he
    simp only [Mp.set] at he
    by_cases hB : B = H.n
    · simp [hB] at he; subst he; simp [hB, hsz]
    · simp [hB] at he; have := h.dom B e he; exact ⟨by simp; omega, this.2⟩
  · intro B B' b1 b2 e e' g1 g2 he he' hne hro
    rw [AH.get_push] at g1 g2
    simp only [Mp.set] at he he'
    by_cases hB : B = H.n
    · by_cases hB' : B' = H.n
      · omega
      · simp [hB] at he; simp [hB'] at he' g2; subst he
        have := h.b_lt g2 he'
        show w.heap.size ≠ e'.b
        omega
    · simp [hB] at he g1
      by_cases hB' : B' = H.n
      · simp [hB'] at he'; subst he'
        have := h.b_lt g1 he
        show e.b ≠ w.heap.size
        omega
      · simp [hB'] at he' g2
        exact h.apart B B' b1 b2 e e' g1 g2 he he' hne hro
  · refine ⟨Nat.le_trans h.glob.1 (by simp), fun g hg => ?_⟩
    have hgn : ¬ g = H.n := by have := h.glob.1; omega
    simp only [Mp.set, hgn, if_false]
    exact h.glob.2 g hg
  · refine ⟨hext, by simp, by simp, fun k hk hn => ⟨hheap k hk, ?_⟩, fun B hB => ?_, fun k hk hn => ?_⟩
    · rintro ⟨B, blk, e, g1, g2, g3, g4⟩
      rw [AH.get_push] at g1
      simp only [Mp.set] at g2
      by_cases hB : B = H.n
      · simp [hB] at g2; subst g2; simp at g4; omega
      · simp [hB] at g1 g2
        exact hn ⟨B, blk, e, g1, g2, g3, g4⟩
    · have hBn : ¬ B = H.n := by omega
      exact ⟨by simp [Mp.set, hBn], fun x => by rw [AH.get_push]; simp [hBn, x]⟩
    · rintro ⟨B, blk, e, g1, g2, g4⟩
      rw [AH.get_push] at g1
      simp only [Mp.set] at g2
      by_cases hB : B = H.n
      · simp [hB] at g2; subst g2; simp at g4; omega
      · simp [hB] at g1 g2
        exact hn ⟨B, blk, e, g1, g2, g4⟩

/-- a block that is given up -/
theorem HRel.kill (h : HRel G base W0 m H w) (B : Nat) : HRel G base W0 m (H.kill B) w := by
  have key : ∀ C b, (H.kill B).get C = some b → H.get C = some b := by
    intro C b hC
    rw [AH.get_kill] at hC
    by_cases hCB : C = B
    · simp [hCB] at hC
    · simpa [hCB] using hC
  exact { below := h.below, bs := h.bs, live := fun C blk hb => h.live C blk (key C blk hb), dom := h.dom
          apart := fun C C' b1 b2 e e' g1 g2 => h.apart C C' b1 b2 e e' (key _ _ g1) (key _ _ g2), glob := h.glob }

theorem Fut.kill (m : Mp) (H : AH) (w : World) (B : Nat) : Fut m H w m (H.kill B) w :=
  ⟨.refl m, Nat.le_refl _, Nat.le_refl _, fun k _ hn => ⟨rfl, fun ⟨C, blk, e, g1, g2⟩ => hn ⟨C, blk, e, by
    rw [AH.get_kill] at g1
    by_cases hCB : C = B
    · simp [hCB] at g1
    · simpa [hCB] using g1, g2⟩⟩, fun C _ => ⟨rfl, fun hC => by rw [AH.get_kill]; simp [hC]⟩, fun k _ hn => fun ⟨C, blk, e, g1, g2⟩ => hn ⟨C, blk, e, by
    rw [AH.get_kill] at g1
    by_cases hCB : C = B
    · simp [hCB] at g1
    · simpa [hCB] using g1, g2⟩⟩

/-! ### frames beside frames -/
def FrRel (m : Mp) (fr : Fr) (tmps : Array Value) : Prop := ∀ i v, fr.get i = some v → ∃ v', tmps[i]? = some v' ∧ VRel m v v'

theorem FrRel.mono {m m' : Mp} (hx : m.Ext m') {fr : Fr} {tmps : Array Value} (h : FrRel m fr tmps) : FrRel m' fr tmps :=
  fun i v hi => let ⟨v', a, b⟩ := h i v hi; ⟨v', a, b.mono hx⟩

theorem FrRel.put {fr : Fr} {tmps : Array Value} (h : FrRel m fr tmps) {d : Nat} (hd : d < tmps.size) {v v' : Value} (hv : VRel m v v') :
    FrRel m (fr.put d v) (tmps.setIfInBounds d v') := by
  intro i u hi
  rw [Fr.get_put] at hi
  by_cases e : i = d
  · subst e
    simp at hi; subst hi
    exact ⟨v', by simp [hd], hv⟩
  · simp [e] at hi
    obtain ⟨u', h1, h2⟩ := h i u hi
    exact ⟨u', by rw [Array.getElem?_setIfInBounds_ne (fun e' => e e'.symm)]; exact h1, h2⟩

theorem FrRel.keep {fr : Fr} {tmps : Array Value} (h : FrRel m fr tmps) (ks : List Nat) : FrRel m (fr.keep ks) tmps :=
  fun i v hi => h i v (Fr.get_keep fr ks i v hi)

end Go.Det
