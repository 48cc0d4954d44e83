/- A part of a run of a program on a heap of its own, and that the machine does what that run says: no condition but those that each theorem names. -/
import Derived.Test.YtbkmkelohlmblaaDet15
set_option linter.unusedSimpArgs false
set_option linter.unusedVariables false
namespace Go.Det

variable {P : Program} {base : Nat} {W0 : World} {call : XCall}

theorem pairOk_spec {ms : List Nat} {ds : List XDop} (h : pairOk ms ds = true) {i j : Nat} {p q : XDop} (hi : ds[i]? = some p) (hj : ds[j]? = some q) (hne : i ≠ j) :
    (p.kind = 2 → q.kind = 2 → bitOf ms i j = true) ∧ (∀ s, q.x.dst = some s → (Fr.has p.rd s = true → bitOf ms i j = true) ∧ (p.x.dst = some s → bitOf ms i j = true)) ∧
    (p.kind = 2 → q.kind = 3 → j < i → bitOf ms i j = true) ∧
    (∀ s, q.x.dst = some s → q.kind = 3 → Fr.has p.rd s = true → j < i → ∀ (k : Nat) (r : XDop), ds[k]? = some r → 2 ≤ r.kind → k < j → (ms.getD i 0).testBit k = true) := by
  have mem : ∀ (k : Nat) (d : XDop), ds[k]? = some d → (d, k) ∈ ds.zipIdx := by
    intro k d hk
    rw [List.mem_zipIdx_iff_getElem?]
    simpa using hk
  have h1 := List.all_eq_true.1 (List.all_eq_true.1 h _ (mem i p hi)) _ (mem j q hj)
  have hb : Nat.beq i j = false := by rw [Tr.beq_eq]; simp [hne]
  simp only [hb, Bool.false_or, Bool.and_eq_true] at h1
  obtain ⟨⟨⟨h1, h3⟩, h4⟩, h2⟩ := h1
  refine ⟨fun k1 k2 => ?_, fun s hs => ?_, fun k1 k2 hlt => ?_, fun s hs k3 hh hlt k r hr hk2 hkj => ?_⟩
  · rw [k1, k2] at h1; simpa using h1
  · simp only [hs, Bool.and_eq_true] at h2
    refine ⟨fun hh => ?_, fun hh => ?_⟩
    · have := h2.1; rw [hh] at this; simpa using this
    · have := h2.2; rw [hh] at this; simpa using this
  · have hb2 : Nat.blt j i = true := by simp [Nat.blt]; omega
    rw [k1, k2, hb2] at h3; simpa using h3
  · have hb2 : Nat.blt j i = true := by simp [Nat.blt]; omega
    unfold lateOk at h4
    simp only [hs, k3, hh, hb2] at h4
    have h5 := List.all_eq_true.1 (by simpa using h4 : (ds.zipIdx.all fun r => !(Nat.ble 2 r.1.kind && Nat.blt r.2 j) || (ms.getD i 0).testBit r.2) = true) _ (mem k r hr)
    have e1 : Nat.ble 2 r.kind = true := by rw [Nat.ble_eq]; omega
    have e2 : Nat.blt k j = true := by simp [Nat.blt]; omega
    simpa [e1, e2] using h5

theorem getD_lt {listed : Array Bool} {j : Nat} (hj : j < listed.size) (d : Bool) : listed.getD j d = listed[j] := by simp [Array.getD, hj]

/-! #### blocks that are made early -/
theorem HRel.garbage {G : Nat} {m : Mp} {H : AH} {w : World} (h : HRel G base W0 m H w) (c : Array Value) (t : TypeId) : HRel G base W0 m H { w with heap := w.heap.push (.cells c t (0, 0)) } :=
  { below := h.below.alloc h.bs _, bs := by simpa using Nat.le_succ_of_le h.bs, dom := h.dom, apart := h.apart, glob := h.glob
    live := fun B blk hb => by
      obtain ⟨e, he, hk⟩ := h.live B blk hb
      have hl := h.b_lt hb he
      obtain ⟨c', t', fz', hw, h1, h2, h3, h4⟩ := hk.at_
      exact ⟨e, he, { kn := hk.kn, sz := hk.sz, opn := hk.opn, ro := hk.ro, at_ := ⟨c', t', fz', by show (w.heap.push _)[e.b]? = _; rw [Array.getElem?_push, if_neg (by omega)]; exact hw, h1, h2, h3, h4⟩ }⟩ }
theorem Fut.garbage (m : Mp) (H : AH) (w : World) (c : Array Value) (t : TypeId) : Fut m H w m H { w with heap := w.heap.push (.cells c t (0, 0)) } :=
  ⟨.refl m, by simp, Nat.le_refl _, fun k hk hn => ⟨by show (w.heap.push _)[k]? = _; rw [Array.getElem?_push, if_neg (by omega)], hn⟩, fun _ _ => ⟨rfl, id⟩, fun _ _ hn => hn⟩

theorem InIm.all {m : Mp} {H : AH} {k : Nat} (h : InIm m H k) : InAll m H k := let ⟨B, blk, e, h1, h2, _, h4⟩ := h; ⟨B, blk, e, h1, h2, h4⟩

theorem HRel.adopt {G : Nat} {m : Mp} {H : AH} {w : World} (h : HRel G base W0 m H w) (blk : Blk) {k : Nat} {c : Array Value} {ty : TypeId} {cs' : List Value} (hw : w.heap[k]? = some (.cells c ty (0, 0))) (hb : base ≤ k) (hna : ¬ InAll m H k) (hsz : 0 < blk.sz)
    (hro : blk.ro = false) (hopn : blk.opn = false) (hl : LRel m blk.cells cs') (hc : c.toList = cs') :
    HRel G base W0 (m.set H.n ⟨k, 0, c.size, blk.cells.length, blk.sz, false, false⟩) (H.push blk) w := by
  have hext := m.ext_set ⟨k, 0, c.size, blk.cells.length, blk.sz, false, false⟩ h.fresh
  refine { below := h.below, bs := h.bs, dom := ?_, apart := ?_, glob := ?_, live := ?_ }
  · intro B b hbb
    rw [AH.get_push] at hbb
    by_cases hB : B = H.n
    · subst hB
      simp at hbb; subst hbb
      have hcs : c.size = blk.cells.length := by rw [← Array.length_toList, hc, hl.1]
      refine ⟨⟨k, 0, c.size, blk.cells.length, blk.sz, false, false⟩, by simp [Mp.set], { kn := rfl, sz := rfl, opn := hopn.symm, ro := hro.symm, at_ := ⟨c, ty, (0, 0), hw, rfl, by simp [hcs], ?_, fun _ => ⟨hb, nofz _⟩⟩ }⟩
      intro i u hi
      obtain ⟨u', h1, h2⟩ := hl.2 i u hi
      refine ⟨u', ?_, h2.mono hext⟩
      rw [← hc] at h1
      rw [Nat.zero_add, ← Array.getElem?_toList]
      exact h1
    · simp [hB] at hbb
      obtain ⟨e, he, hk⟩ := h.live B b hbb
      obtain ⟨c', t', fz', hw', h1, h2, h3, h4⟩ := hk.at_
      exact ⟨e, by simp [Mp.set, hB, he], { kn := hk.kn, sz := hk.sz, opn := hk.opn, ro := hk.ro, at_ := ⟨c', t', fz', hw', h1, h2, fun i v hi => let ⟨v', a, b⟩ := h3 i v hi; ⟨v', a, b.mono hext⟩, h4⟩ }⟩
  · intro B e he
    simp only [Mp.set] at he
    by_cases hB : B = H.n
    · simp [hB] at he; subst he; simp [hB, hsz]
    · simp [hB] at he; have := h.dom B e he; exact ⟨by simp; omega, this.2⟩
  · intro B B' b1 b2 e e' g1 g2 he he' hne hro'
    rw [AH.get_push] at g1 g2
    simp only [Mp.set] at he he'
    by_cases hB : B = H.n
    · by_cases hB' : B' = H.n
      · omega
      · simp [hB] at he; simp [hB'] at he' g2; subst he
        intro x
        exact hna ⟨B', b2, e', g2, he', x.symm⟩
    · simp [hB] at he g1
      by_cases hB' : B' = H.n
      · simp [hB'] at he'; subst he'
        intro x
        exact hna ⟨B, b1, e, g1, he, x⟩
      · simp [hB'] at he' g2
        exact h.apart B B' b1 b2 e e' g1 g2 he he' hne hro'
  · refine ⟨Nat.le_trans h.glob.1 (by simp), fun g hg => ?_⟩
    have hgn : ¬ g = H.n := by have := h.glob.1; omega
    simp only [Mp.set, hgn, if_false]
    exact h.glob.2 g hg

theorem Fut.adopt {G : Nat} {m0 : Mp} {H0 : AH} {w0 : World} {m : Mp} {H : AH} {w : World} (F : Fut m0 H0 w0 m H w) (h : HRel G base W0 m H w) (blk : Blk) (e : Ent) (hk : w0.heap.size ≤ e.b) : Fut m0 H0 w0 (m.set H.n e) (H.push blk) w := by
  refine ⟨F.ext.trans (m.ext_set e h.fresh), F.size, Nat.le_trans F.n (by simp), fun k hk' hn => ⟨(F.keep k hk' hn).1, ?_⟩, fun B hB => ?_, fun k hk' hn => ?_⟩
  · rintro ⟨B, b, e', g1, g2, g3, g4⟩
    rw [AH.get_push] at g1
    simp only [Mp.set] at g2
    by_cases hB : B = H.n
    · simp [hB] at g2; subst g2; omega
    · simp [hB] at g1 g2
      exact (F.keep k hk' hn).2 ⟨B, b, e', g1, g2, g3, g4⟩
  · have hBn : ¬ B = H.n := by have := F.n; omega
    obtain ⟨a, b⟩ := F.old B hB
    exact ⟨by simp [Mp.set, hBn, a], fun x => by rw [AH.get_push]; simp [hBn, b x]⟩
  · rintro ⟨B, b, e', g1, g2, g4⟩
    rw [AH.get_push] at g1
    simp only [Mp.set] at g2
    by_cases hB : B = H.n
    · simp [hB] at g2; subst g2; omega
    · simp [hB] at g1 g2
      exact F.all k hk' hn ⟨B, b, e', g1, g2, g4⟩

/-- a block that lies in the machine and is not yet one of ours -/
def PendAt (base : Nat) (w0 : World) (m : Mp) (H : AH) (w : World) (blk : Blk) (n : Nat) (v v' : Value) (k : Nat) : Prop :=
  ∃ c ty cs', w.heap[k]? = some (.cells c ty (0, 0)) ∧ w0.heap.size ≤ k ∧ base ≤ k ∧ ¬ InAll m H k ∧ LRel m blk.cells cs' ∧ c.toList = cs' ∧
    ∀ m', m'.f n = some ⟨k, 0, c.size, blk.cells.length, blk.sz, false, false⟩ → VRel m' v v'
theorem PendAt.lt {base : Nat} {w0 : World} {m : Mp} {H : AH} {w : World} {blk : Blk} {n : Nat} {v v' : Value} {k : Nat} (h : PendAt base w0 m H w blk n v v' k) : k < w.heap.size := by
  obtain ⟨c, ty, cs', h1, _⟩ := h
  exact (Array.getElem?_eq_some_iff.1 h1).1
theorem PendAt.fut {base : Nat} {w0 : World} {m m' : Mp} {H H' : AH} {w w' : World} {blk : Blk} {n : Nat} {v v' : Value} {k : Nat} (h : PendAt base w0 m H w blk n v v' k) (F : Fut m H w m' H' w') : PendAt base w0 m' H' w' blk n v v' k := by
  have hk := h.lt
  obtain ⟨c, ty, cs', h1, h2, h3, h4, h5, h6, h7⟩ := h
  exact ⟨c, ty, cs', (F.keep k hk (fun x => h4 x.all)).1.trans h1, h2, h3, F.all k hk h4, ⟨h5.1, fun i u hi => let ⟨u', a, b⟩ := h5.2 i u hi; ⟨u', a, b.mono F.ext⟩⟩, h6, h7⟩

structure DPre (P : Program) (base : Nat) (W0 : World) (N : Nat) (ops : Array Oper) (ds : List XDop) (f : Nat → Fr) (h : Nat → AH) (v : Nat → Value) (m0 : Mp) (w0 : World) (kap : Nat → Nat) (nu : Nat → Value) (listed : Array Bool) (a : Act) (w : World) (m : Mp) (t : Nat) : Prop where
  hr : HR P base W0 m (h t) w
  fut : Fut m0 (h 0) w0 m (h t) w
  df : a.defers = []
  sz : N ≤ a.tmps.size
  lsz : listed.size = ds.length
  closed : ∀ k o, listed.getD k false = true → ops[k]? = some o → ∀ e ∈ o.after, Region.binds .any e = true → listed.getD e.on false = true
  tn : t ≤ ds.length
  te : ∀ (j : Nat) (d : XDop), ds[j]? = some d → d.kind = 2 → (listed.getD j false = true ↔ j < t)
  te3 : ∀ (j : Nat) (d : XDop), ds[j]? = some d → d.kind = 3 → j < t → listed.getD j false = true
  ts : t = 0 ∨ ∃ (j : Nat) (d : XDop), ds[j]? = some d ∧ 2 ≤ d.kind ∧ t = j + 1
  fa : ∀ s, (∀ (j : Nat) (d : XDop), ds[j]? = some d → listed.getD j false = true → d.x.dst ≠ some s) → ∀ v, (f 0).get s = some v → ∃ v', a.tmps[s]? = some v' ∧ VRel m v v'
  fb : ∀ (s i : Nat) (d : XDop), ds[i]? = some d → listed.getD i false = true → d.x.dst = some s → (d.kind = 3 → i < t) → (∀ (j : Nat) (e : XDop), ds[j]? = some e → listed.getD j false = true → e.x.dst = some s → j ≤ i) →
    ∀ v, (f (i + 1)).get s = some v → ∃ v', a.tmps[s]? = some v' ∧ VRel m v v'
  pend : ∀ (j : Nat) (d : XDop), ds[j]? = some d → d.kind = 3 → listed.getD j false = true → t ≤ j → ∃ blk, h (j + 1) = (h j).push blk ∧ blk.ro = false ∧ 0 < blk.sz ∧ blk.opn = false ∧ PendAt base w0 m (h t) w blk (h j).n (v j) (nu j) (kap j)
  pslot : ∀ (s j : Nat) (d : XDop), ds[j]? = some d → d.kind = 3 → listed.getD j false = true → t ≤ j → d.x.dst = some s → (∀ (i : Nat) (e : XDop), ds[i]? = some e → listed.getD i false = true → e.x.dst = some s → i ≤ j) → a.tmps[s]? = some (nu j)
  inj : ∀ (j j' : Nat) (d d' : XDop), ds[j]? = some d → ds[j']? = some d' → d.kind = 3 → d'.kind = 3 → listed.getD j false = true → listed.getD j' false = true → t ≤ j → t ≤ j' → j ≠ j' → kap j ≠ kap j'

/-- whatever was made early waits for an effect -/
def Late (ds : List XDop) (listed : Array Bool) (t : Nat) : Prop :=
  ∀ (j : Nat) (d : XDop), ds[j]? = some d → d.kind = 3 → listed.getD j false = true → t ≤ j → ∃ (j' : Nat) (d' : XDop), t ≤ j' ∧ j' < j ∧ ds[j']? = some d' ∧ 2 ≤ d'.kind ∧ listed.getD j' false = false

theorem least_of (Pr : Nat → Prop) : ∀ j, Pr j → ∃ j0, j0 ≤ j ∧ Pr j0 ∧ ∀ i, i < j0 → ¬ Pr i := by
  intro j
  induction j using Nat.strongRecOn with
  | _ j ih =>
    intro hj
    by_cases h : ∃ i, i < j ∧ Pr i
    · obtain ⟨i, h1, h2⟩ := h
      obtain ⟨j0, g1, g2, g3⟩ := ih i h1 h2
      exact ⟨j0, by omega, g2, g3⟩
    · exact ⟨j, Nat.le_refl _, hj, fun i hi hp => h ⟨i, hi, hp⟩⟩

theorem settle {N : Nat} {ops : Array Oper} {ds : List XDop} {f : Nat → Fr} {h : Nat → AH} {v : Nat → Value} {m0 : Mp} {w0 : World} {kap : Nat → Nat} {nu : Nat → Value} {listed : Array Bool} {a : Act} {w : World}
    (hstep : ∀ (k : Nat) (d : XDop), ds[k]? = some d → f (k + 1) = (f k).put? d.x.dst (v k))
    (hconst : ∀ i t, t ≤ i → i ≤ ds.length → (∀ (k : Nat) (d : XDop), t ≤ k → k < i → ds[k]? = some d → ¬ 2 ≤ d.kind) → h i = h t) (hk3 : ∀ (k : Nat) (d : XDop), ds[k]? = some d → 2 ≤ d.kind → d.kind = 2 ∨ d.kind = 3) :
    ∀ (n t : Nat) (m : Mp), ds.length - t ≤ n → DPre P base W0 N ops ds f h v m0 w0 kap nu listed a w m t → ∃ m' t', DPre P base W0 N ops ds f h v m0 w0 kap nu listed a w m' t' ∧ Late ds listed t' := by
  intro n
  induction n with
  | zero =>
    intro t m hn I
    refine ⟨m, t, I, fun j d hd _ _ htj => ?_⟩
    have := (List.getElem?_eq_some_iff.1 hd).1
    omega
  | succ n ih =>
    intro t m hn I
    by_cases hl : Late ds listed t
    · exact ⟨m, t, I, hl⟩
    · -- one that waits for nothing
      have hex : ∃ (j : Nat) (d : XDop), ds[j]? = some d ∧ d.kind = 3 ∧ listed.getD j false = true ∧ t ≤ j ∧ ∀ (j' : Nat) (d' : XDop), t ≤ j' → j' < j → ds[j']? = some d' → 2 ≤ d'.kind → listed.getD j' false = true := by
        refine Classical.byContradiction fun hno => hl fun j d hd hk hlj htj => Classical.byContradiction fun hno2 => hno ⟨j, d, hd, hk, hlj, htj, fun j' d' h1 h2 h3 h4 => ?_⟩
        cases hb : listed.getD j' false
        · exact absurd ⟨j', d', h1, h2, h3, h4, hb⟩ hno2
        · rfl
      obtain ⟨j, d, hd, hk, hlj, htj, hall⟩ := hex
      obtain ⟨j0, g1, ⟨g2, d0, g3, g4⟩, g5⟩ := least_of (fun j => t ≤ j ∧ ∃ d, ds[j]? = some d ∧ 2 ≤ d.kind) j ⟨htj, d, hd, by omega⟩
      have hlj0 : listed.getD j0 false = true := by
        rcases Nat.lt_or_ge j0 j with h' | h'
        · exact hall j0 d0 g2 h' g3 g4
        · obtain rfl : j0 = j := by omega
          exact hlj
      have hk0 : d0.kind = 3 := by
        rcases hk3 j0 d0 g3 g4 with h' | h'
        · have := (I.te j0 d0 g3 h').1 hlj0; omega
        · exact h'
      have hjn := (List.getElem?_eq_some_iff.1 g3).1
      have hne : ∀ (k : Nat) (e : XDop), t ≤ k → k < j0 → ds[k]? = some e → ¬ 2 ≤ e.kind := fun k e h1 h2 h3 h4 => g5 k h2 ⟨h1, e, h3, h4⟩
      have hh : h j0 = h t := hconst j0 t g2 (Nat.le_of_lt hjn) hne
      obtain ⟨blk, b1, b2, b3, b4, hp⟩ := I.pend j0 d0 g3 hk0 hlj0 g2
      have hplt := hp.lt
      obtain ⟨c, ty, cs', p1, p2, p3, p4, p5, p6, p7⟩ := hp
      rw [hh] at b1 p7
      have hadopt := HRel.adopt I.hr blk p1 p3 p4 b3 b2 b4 p5 p6
      have hfut := Fut.adopt I.fut I.hr blk ⟨kap j0, 0, c.size, blk.cells.length, blk.sz, false, false⟩ p2
      have hext := m.ext_set ⟨kap j0, 0, c.size, blk.cells.length, blk.sz, false, false⟩ (HRel.fresh I.hr)
      refine ih (j0 + 1) (m.set (h t).n ⟨kap j0, 0, c.size, blk.cells.length, blk.sz, false, false⟩) (by omega) ?_
      refine { hr := by rw [b1]; exact hadopt, fut := by rw [b1]; exact hfut, df := I.df, sz := I.sz, lsz := I.lsz, closed := I.closed, tn := hjn, te := ?_, te3 := ?_, ts := .inr ⟨j0, d0, g3, g4, rfl⟩, fa := ?_, fb := ?_, pend := ?_, pslot := ?_, inj := ?_ }
      · intro k e he hke
        rw [I.te k e he hke]
        refine ⟨fun h' => by omega, fun h' => ?_⟩
        rcases Nat.lt_or_ge k t with h1 | h1
        · exact h1
        · exfalso
          rcases Nat.lt_or_ge k j0 with h2 | h2
          · exact hne k e h1 h2 he (by omega)
          · obtain rfl : k = j0 := by omega
            rw [g3] at he; cases he; omega
      · intro k e he hke hlt
        rcases Nat.lt_or_ge k t with h1 | h1
        · exact I.te3 k e he hke h1
        · rcases Nat.lt_or_ge k j0 with h2 | h2
          · exact absurd (by omega) (hne k e h1 h2 he)
          · obtain rfl : k = j0 := by omega
            exact hlj0
      · intro s hs u hu
        obtain ⟨u', q1, q2⟩ := I.fa s hs u hu
        exact ⟨u', q1, q2.mono hext⟩
      · intro s i e he hli hes hlt hmax u hu
        by_cases hij : i = j0
        · subst hij
          rw [g3] at he; cases he
          refine ⟨nu i, I.pslot s i d0 g3 hk0 hlj0 g2 hes hmax, ?_⟩
          rw [hstep i d0 g3, Fr.get_put?, if_pos hes] at hu
          cases hu
          exact p7 _ (by simp [Mp.set])
        · obtain ⟨u', q1, q2⟩ := I.fb s i e he hli hes (fun hk' => by
            have := hlt hk'
            rcases Nat.lt_or_ge i t with h1 | h1
            · exact h1
            · exact absurd (by omega) (hne i e h1 (by omega) he)) hmax u hu
          exact ⟨u', q1, q2.mono hext⟩
      · intro k e he hke hlk htk
        obtain ⟨bk, c1, c2, c3, c4, c, ty, cs', r1, r2, r3, r4, r5, r6, r7⟩ := I.pend k e he hke hlk (by omega)
        refine ⟨bk, c1, c2, c3, c4, c, ty, cs', r1, r2, r3, ?_, ⟨r5.1, fun i u hi => let ⟨u', x, y⟩ := r5.2 i u hi; ⟨u', x, y.mono hext⟩⟩, r6, r7⟩
        rintro ⟨B, b, e', q1, q2, q3⟩
        rw [b1, AH.get_push] at q1
        simp only [Mp.set] at q2
        by_cases hB : B = (h t).n
        · simp [hB] at q2; subst q2
          exact I.inj j0 k d0 e g3 he hk0 hke hlj0 hlk g2 (by omega) (by omega) q3
        · simp [hB] at q1 q2
          exact r4 ⟨B, b, e', q1, q2, q3⟩
      · intro s k e he hke hlk htk hes hmax
        exact I.pslot s k e he hke hlk (by omega) hes hmax
      · intro k k' e e' he he' hke hke' hlk hlk' htk htk' hne'
        exact I.inj k k' e e' he he' hke hke' hlk hlk' (by omega) (by omega) hne'

theorem tmpsOf_mem : ∀ (l : List Operand) (t : Nat), Operand.tmp t ∈ l → t ∈ tmpsOf l
  | [], t, h => by simp at h
  | .tmp u :: r, t, h => by
    simp only [tmpsOf, List.mem_cons] at *
    rcases h with h | h
    · cases h; exact .inl rfl
    · exact .inr (tmpsOf_mem r t h)
  | .const c :: r, t, h => by
    simp only [tmpsOf, List.mem_cons] at *
    rcases h with h | h
    · cases h
    · exact tmpsOf_mem r t h
  | .global c :: r, t, h => by
    simp only [tmpsOf, List.mem_cons] at *
    rcases h with h | h
    · cases h
    · exact tmpsOf_mem r t h
  | .func c :: r, t, h => by
    simp only [tmpsOf, List.mem_cons] at *
    rcases h with h | h
    · cases h
    · exact tmpsOf_mem r t h

theorem keep_has (fr : Fr) (ks : List Nat) (i : Nat) (v : Value) (h : (fr.keep ks).get i = some v) : Fr.has ks i = true := by
  induction fr with
  | nil => simp [Fr.keep, Fr.get] at h
  | cons p r ih =>
    simp only [Fr.keep] at h
    cases hb : Fr.has ks p.1
    · simp only [hb, cond_false] at h; exact ih h
    · simp only [hb, cond_true, Fr.get, Tr.beq_eq] at h
      by_cases hp : p.1 = i
      · rw [← hp]; exact hb
      · simp only [hp, decide_false, cond_false] at h; exact ih h

theorem xdops_wpAny (hcall : CallsOk P call) {N : Nat} {ops : Array Oper} {ds : List XDop} {Q : Exit → Act → World → Prop} {fr fr' : Fr} {H H' : AH} {m0 : Mp} {a0 : Act} {w0 : World} (hc : cDops P N ops = some ds)
    (hx : xdops P call ds fr H = some (fr', H')) (hst : St P base W0 N m0 fr H a0 w0) (hq : ∀ m' a' w', St P base W0 N m' fr' H' a' w' → Fut m0 H w0 m' H' w' → Q .normal a' w') :
    wpAny P .any ops Q ops.size (Array.replicate ops.size false) a0 w0 := by
  unfold cDops at hc
  split at hc
  · simp at hc
  rename_i xs hxs
  cases hok : (depOk ops (masks ops.toList []) && pairOk (masks ops.toList []) (mkD (masks ops.toList []) (xs.map fun x => kindX x) 0 xs (ops.toList.map (rdOf ops))))
  · simp only [hok, cond_false] at hc; cases hc
  simp only [hok, cond_true, Option.some.injEq] at hc
  obtain ⟨hdep, hpair⟩ := Bool.and_eq_true_iff.1 hok
  rw [hc] at hpair
  generalize hms : masks ops.toList [] = ms at *
  obtain ⟨hxl, hxget⟩ := cOpers_get _ _ hxs
  have hlen : ds.length = ops.size := by
    rw [← hc, mkD_length _ _ _ _ _ (by simp [hxl]), hxl, Array.length_toList]
  -- what an operation is
  have hds : ∀ (k : Nat) (d : XDop), ds[k]? = some d → ∃ o, ops[k]? = some o ∧ cOper P N ops o = some d.x ∧ d.kind = kindX d.x ∧
      d.stab = (bif Nat.beq d.kind 1 then stabList ms (xs.map fun x => kindX x) k else []) ∧ (xs.map fun x => kindX x).getD k 0 = d.kind := by
    intro k d hk
    rw [← hc] at hk
    obtain ⟨x, r, h1, h2, h3⟩ := mkD_get _ _ _ _ _ _ _ hk
    obtain ⟨o, g1, g2⟩ := hxget k x h1
    subst h3
    refine ⟨o, by simpa using g1, g2, rfl, by simp, ?_⟩
    simp [List.getD_eq_getElem?_getD, h1]
  have hkl : (xs.map fun x => kindX x).length = ds.length := by simp [hxl, hlen]
  have hks : ∀ k, k < ds.length → ∃ d, ds[k]? = some d ∧ (xs.map fun x => kindX x).getD k 0 = d.kind := by
    intro k hk
    refine ⟨ds[k], List.getElem?_eq_getElem hk, ?_⟩
    obtain ⟨_, _, _, _, _, g⟩ := hds k _ (List.getElem?_eq_getElem hk)
    exact g
  generalize hkse : (xs.map fun x => kindX x) = ks at *
  -- the run
  unfold xdops at hx
  split at hx
  case h_2 => simp at hx
  rename_i r hrun
  cases hstab : r.cs.all (stabOk P call r.hs)
  · simp only [hstab, cond_false] at hx; cases hx
  simp only [hstab, cond_true, Option.some.injEq, Prod.mk.injEq] at hx
  obtain ⟨rfl, rfl⟩ := hx
  obtain ⟨f, h, v, t1, t2, t3, t4, t5, t6, _⟩ := drun_trace ds 0 fr H _ _ r hrun
  simp only [Nat.zero_add] at t3 t4 t5 t6
  have t5' : ∀ (k : Nat) (d : XDop), ds[k]? = some d → xval P call d.x ((f k).keep d.rd) (h k) = some (v k, h (k + 1)) ∧ f (k + 1) = (f k).put? d.x.dst (v k) ∧ (d.stab ≠ [] → (d, (f k).keep d.rd, v k) ∈ r.cs) := t5
  -- heaps that stay
  have hk23 : ∀ (k : Nat) (d : XDop), ds[k]? = some d → d.kind = 0 ∨ d.kind = 1 ∨ d.kind = 2 ∨ d.kind = 3 := by
    intro k d hd
    obtain ⟨_, _, _, g, _, _⟩ := hds k d hd
    rw [g]; exact kindX_le _
  have hconst : ∀ i t, t ≤ i → i ≤ ds.length → (∀ (k : Nat) (d : XDop), t ≤ k → k < i → ds[k]? = some d → ¬ 2 ≤ d.kind) → h i = h t := by
    intro i
    induction i with
    | zero => intro t ht _ _; rw [Nat.le_zero.1 ht]
    | succ i ih =>
      intro t ht hi hk
      rcases Nat.lt_or_ge i t with h' | h'
      · rw [show t = i + 1 by omega]
      · have hd := List.getElem?_eq_getElem (show i < ds.length by omega)
        have hnk := hk i _ h' (by omega) hd
        obtain ⟨_, _, _, g, _, _⟩ := hds i _ hd
        have := (t5' i _ hd).1
        rw [← ih t h' (by omega) (fun k d a b c => hk k d a (by omega) c)]
        rcases kindX_le ds[i].x with kk | kk | kk | kk
        · exact (xval_pure (kindX_of kk (by omega)) this (h i)).1
        · exact xval_read (kindX_of kk (by omega)) this
        · rw [← g] at kk; exact absurd (by omega) hnk
        · rw [← g] at kk; exact absurd (by omega) hnk
  -- the last writer of a slot
  have lastW : ∀ i, i ≤ ds.length → ∀ s, (∃ (d : Nat) (e : XDop), d < i ∧ ds[d]? = some e ∧ e.x.dst = some s ∧ (∀ (j : Nat) (e' : XDop), d < j → j < i → ds[j]? = some e' → e'.x.dst ≠ some s) ∧ (f i).get s = (f (d + 1)).get s) ∨
      ((∀ (j : Nat) (e' : XDop), j < i → ds[j]? = some e' → e'.x.dst ≠ some s) ∧ (f i).get s = (f 0).get s) := by
    intro i
    induction i with
    | zero => intro _ s; exact .inr ⟨fun j _ hj => by omega, rfl⟩
    | succ i ih =>
      intro hi s
      have hd := List.getElem?_eq_getElem (show i < ds.length by omega)
      have hput := (t5' i _ hd).2.1
      by_cases hw : ds[i].x.dst = some s
      · exact .inl ⟨i, _, by omega, hd, hw, fun j _ a b => by omega, rfl⟩
      · have hget : (f (i + 1)).get s = (f i).get s := by rw [hput, Fr.get_put?, if_neg hw]
        rcases ih (by omega) s with ⟨d, e, g1, g2, g3, g4, g5⟩ | ⟨g1, g2⟩
        · refine .inl ⟨d, e, by omega, g2, g3, fun j e' a b c => ?_, by rw [hget, g5]⟩
          by_cases hji : j = i
          · subst hji; rw [hd] at c; cases c; exact hw
          · exact g4 j e' a (by omega) c
        · refine .inr ⟨fun j e' a b => ?_, by rw [hget, g2]⟩
          by_cases hji : j = i
          · subst hji; rw [hd] at b; cases b; exact hw
          · exact g1 j e' (by omega) b
  -- all has been carried out
  have hfin : ∀ (kap : Nat → Nat) (nu : Nat → Value) (listed : Array Bool) (a : Act) (w : World) (m : Mp) (t : Nat), DPre P base W0 N ops ds f h v m0 w0 kap nu listed a w m t → Late ds listed t → (∀ j, j < ds.length → listed.getD j false = true) → Q .normal a w := by
    intro kap nu listed a w m t I hlate hall
    have hno : ∀ (k : Nat) (d : XDop), ds[k]? = some d → 2 ≤ d.kind → k < t := by
      intro k d hd hk
      have hkn := (List.getElem?_eq_some_iff.1 hd).1
      rcases Nat.lt_or_ge k t with h' | h'
      · exact h'
      · exfalso
        rcases hk23 k d hd with q | q | q | q
        · omega
        · omega
        · have := (I.te k d hd q).1 (hall k hkn); omega
        · obtain ⟨j', d', _, _, x3, _, x5⟩ := hlate k d hd q (hall k hkn) h'
          rw [hall j' (List.getElem?_eq_some_iff.1 x3).1] at x5; cases x5
    have hh : h ds.length = h t := hconst _ t I.tn (Nat.le_refl _) fun k d a1 a2 hd hk => by
      have := hno k d hd hk
      omega
    refine hq m a w { hr := ?_, fr := ?_, df := I.df, sz := I.sz } ?_
    · rw [← t4, hh]; exact I.hr
    · rw [← t3]
      intro s u hu
      rcases lastW ds.length (Nat.le_refl _) s with ⟨d, e, g1, g2, g3, g4, g5⟩ | ⟨g1, g2⟩
      · refine I.fb s d e g2 (hall d g1) g3 (fun hk => hno d e g2 (by omega)) (fun j e' hj _ hw => ?_) u (by rw [← g5]; exact hu)
        rcases Nat.lt_or_ge d j with h' | h'
        · have : j < ds.length := (List.getElem?_eq_some_iff.1 hj).1
          exact absurd hw (g4 j e' h' this hj)
        · exact h'
      · refine I.fa s (fun j e' hj _ => g1 j e' (List.getElem?_eq_some_iff.1 hj).1 hj) u (by rw [← g2]; exact hu)
    · rw [← t4, hh, ← t2]; exact I.fut
  -- the rounds
  have main : ∀ (fuel : Nat) (kap : Nat → Nat) (nu : Nat → Value) (listed : Array Bool) (a : Act) (w : World) (m : Mp) (t : Nat), DPre P base W0 N ops ds f h v m0 w0 kap nu listed a w m t → Late ds listed t → listed.toList.count false = fuel → wpAny P .any ops Q fuel listed a w := by
    intro fuel
    induction fuel with
    | zero =>
      intro kap nu listed a w m t I hlate hcnt
      have hall : ∀ j, j < ds.length → listed.getD j false = true := by
        intro j hj
        have hj' : j < listed.size := by rw [I.lsz]; exact hj
        rw [getD_lt hj']
        have := List.count_eq_zero.1 hcnt
        cases hb : listed[j]
        · exfalso; apply this; rw [← hb]; simp
        · rfl
      refine ⟨?_, hfin kap nu listed a w m t I hlate hall⟩
      cases hr : Region.ready .any ops listed with
      | nil => rfl
      | cons x l =>
        have : x ∈ Region.ready .any ops listed := by rw [hr]; simp
        obtain ⟨g1, o, g2, _⟩ := mem_ready.1 this
        have hx : x < ds.length := by rw [hlen]; exact (Array.getElem?_eq_some_iff.1 g2).1
        have h1 := hall x hx
        rw [getD_lt (by rw [I.lsz]; exact hx)] at g1 h1
        rw [h1] at g1; simp at g1
    | succ fuel ih =>
      intro kap nu listed a w m t I hlate hcnt
      refine ⟨fun hnil => hfin kap nu listed a w m t I hlate ?_, ?_⟩
      · -- nothing is ready: all is done
        intro j
        induction j using Nat.strongRecOn with
        | _ j ihj =>
          intro hj
          cases hb : listed.getD j false
          · exfalso
            have hjo : j < ops.size := by rw [← hlen]; exact hj
            have : j ∈ Region.ready .any ops listed := by
              rw [mem_ready]
              refine ⟨?_, ops[j], Array.getElem?_eq_getElem hjo, fun e he hbe => ?_⟩
              · rw [getD_lt (by rw [I.lsz]; exact hj)] at hb ⊢; exact hb
              · have h1 := List.all_eq_true.1 hdep j (List.mem_range.2 hjo)
                simp only [Array.getElem?_eq_getElem hjo, Bool.and_eq_true] at h1
                have := List.all_eq_true.1 h1.2 e (by simpa using he)
                simp only [hbe, Bool.not_true, Bool.false_or] at this
                exact ihj e.on (natlt this) (by have := natlt this; omega)
            rw [hnil] at this; cases this
          · rfl
      · intro i hi
        obtain ⟨g1, o, ho, hedge⟩ := mem_ready.1 hi
        have hin : i < ds.length := by rw [hlen]; exact (Array.getElem?_eq_some_iff.1 ho).1
        have hil : i < listed.size := by rw [I.lsz]; exact hin
        have hno : listed.getD i false = false := by rw [getD_lt hil] at g1 ⊢; exact g1
        obtain ⟨d, hd, hkd⟩ := hks i hin
        obtain ⟨o', ho', hco, hkind, hstb, _⟩ := hds i d hd
        rw [ho] at ho'; cases ho'
        obtain ⟨r1, r2, r3⟩ := t5' i d hd
        obtain ⟨dd1, dd2⟩ := cOper_dst hco
        -- what others must be
        have bit : ∀ j, bitOf ms i j = true → j ≠ i → (j < i → listed.getD j false = true) ∧ (i < j → listed.getD j false = false) := by
          intro j hb hji
          unfold bitOf at hb
          refine ⟨fun hlt => ?_, fun hlt => ?_⟩
          · have : Nat.blt j i = true := by simp [Nat.blt]; omega
            rw [this] at hb
            exact mask_closed hdep (fun k => listed.getD k false = true) I.closed i o ho hedge j hb
          · have : Nat.blt j i = false := by
              cases hbl : Nat.blt j i
              · rfl
              · have := natlt hbl; omega
            rw [this] at hb
            cases hex : listed.getD j false
            · rfl
            · exfalso
              have hjn : j < ops.size := by
                rcases Nat.lt_or_ge j ops.size with h' | h'
                · exact h'
                · rw [show listed.getD j false = false from by simp [Array.getD, show ¬ j < listed.size by rw [I.lsz, hlen]; omega]] at hex; simp at hex
              have := mask_closed hdep (fun k => listed.getD k false = true) I.closed j _ (Array.getElem?_eq_getElem hjn) (I.closed j _ hex (Array.getElem?_eq_getElem hjn)) i hb
              rw [hno] at this; simp at this
        -- the operation's own slots
        have hfr : FrRel m ((f i).keep d.rd) a.tmps := by
          intro s u hu
          have hhas := keep_has _ _ _ _ hu
          have hu' := Fr.get_keep _ _ _ _ hu
          have hwr : ∀ (j : Nat) (e : XDop), ds[j]? = some e → e.x.dst = some s → j ≠ i → (j < i → listed.getD j false = true) ∧ (i < j → listed.getD j false = false) := by
            intro j e he hes hji
            exact bit j (((pairOk_spec hpair hd he (fun x => hji x.symm)).2.1 s hes).1 hhas) hji
          rcases lastW i (Nat.le_of_lt hin) s with ⟨k, e, q1, q2, q3, q4, q5⟩ | ⟨q1, q2⟩
          · refine I.fb s k e q2 ((hwr k e q2 q3 (by omega)).1 q1) q3 (fun hk3 => ?_) (fun j e' hj hjl hjs => ?_) u (by rw [← q5]; exact hu')
            · rcases Nat.lt_or_ge k t with h' | h'
              · exact h'
              · exfalso
                obtain ⟨j', d', x1, x2, x3, x4, x5⟩ := hlate k e q2 hk3 ((hwr k e q2 q3 (by omega)).1 q1) h'
                have hb := (pairOk_spec hpair hd q2 (by omega)).2.2.2 s q3 hk3 hhas q1 j' d' x3 x4 x2
                have := mask_closed hdep (fun k => listed.getD k false = true) I.closed i o ho hedge j' hb
                rw [x5] at this; cases this
            rcases Nat.lt_or_ge k j with h' | h'
            · rcases Nat.lt_trichotomy j i with h2 | h2 | h2
              · exact absurd hjs (q4 j e' h' h2 hj)
              · subst h2; rw [hno] at hjl; simp at hjl
              · rw [(hwr j e' hj hjs (by omega)).2 h2] at hjl; simp at hjl
            · exact h'
          · refine I.fa s (fun j e' hj hjl hjs => ?_) u (by rw [← q2]; exact hu')
            rcases Nat.lt_trichotomy j i with h2 | h2 | h2
            · exact q1 j e' h2 hj hjs
            · subst h2; rw [hno] at hjl; simp at hjl
            · rw [(hwr j e' hj hjs (by omega)).2 h2] at hjl; simp at hjl
        -- what is to be kept of the count
        have hcount : (listed.setIfInBounds i true).toList.count false = fuel := by
          rw [Array.toList_setIfInBounds, List.count_set (by simpa using hil)]
          have : listed.toList[i]'(by simpa using hil) = false := by
            rw [getD_lt hil] at hno; simpa using hno
          rw [this, hcnt]; simp
        have hclosed : ∀ k ok, (listed.setIfInBounds i true).getD k false = true → ops[k]? = some ok → ∀ e ∈ ok.after, Region.binds .any e = true → (listed.setIfInBounds i true).getD e.on false = true := by
          intro k ok hk hok e he hbe
          by_cases hki : k = i
          · subst hki
            rw [ho] at hok; cases hok
            exact getD_set_true (hedge e he hbe)
          · rw [getD_set_ne false (fun x => hki x.symm)] at hk
            exact getD_set_true (I.closed k ok hk hok e he hbe)
        have hslot : ∀ (v' : Value) s, d.x.dst ≠ some s → (a.put d.x.dst v').tmps[s]? = a.tmps[s]? := by
          intro v' s hs
          cases hdd : d.x.dst with
          | none => rfl
          | some k =>
            rw [hdd] at hs
            simp only [Act.put]
            rw [Array.getElem?_setIfInBounds_ne (fun x => hs (by rw [x]))]
        have hself : ∀ (v' : Value) s, d.x.dst = some s → (a.put d.x.dst v').tmps[s]? = some v' := by
          intro v' s hs
          rw [hs]
          have hsN : s < a.tmps.size := Nat.lt_of_lt_of_le (dd2 s (by rw [← dd1]; exact hs)) I.sz
          simp [Act.put, hsN]
        -- a slot that is written now: this is the last one
        have hlast : ∀ (s j : Nat) (e : XDop), ds[j]? = some e → (listed.setIfInBounds i true).getD j false = true → e.x.dst = some s → d.x.dst = some s → (∀ (k : Nat) (ek : XDop), ds[k]? = some ek → (listed.setIfInBounds i true).getD k false = true → ek.x.dst = some s → k ≤ j) → j = i := by
          intro s j e hj hjl hes hsi hmax
          by_cases hne : j = i
          · exact hne
          · exfalso
            have hjl' : listed.getD j false = true := by rwa [getD_set_ne false (fun x => hne x.symm)] at hjl
            have hb := bit j (((pairOk_spec hpair hd hj (fun x => hne x.symm)).2.1 s hes).2 hsi) hne
            have := hmax i d hd (by simp [hil]) hsi
            rw [hb.2 (by omega)] at hjl'; simp at hjl'
        by_cases hk3 : d.kind = 3
        · -- a block is made, perhaps early
          have hti : t ≤ i := by
            rcases Nat.lt_or_ge i t with h' | h'
            · rw [I.te3 i d hd hk3 h'] at hno; cases hno
            · exact h'
          obtain ⟨blk, b1, b2, b3, b4, hrun⟩ := alloc_wpOp ho hco (by rw [← hkind]; exact hk3) r1 I.hr hfr Q
          refine wpOp_mono ?_ hrun
          rintro a' w' ⟨v', c, ty, cs', rfl, rfl, k1, k2, k3⟩
          have hg := Fut.garbage m (h t) w c ty
          have hpend : PendAt base w0 m (h t) { w with heap := w.heap.push (.cells c ty (0, 0)) } blk (h i).n (v i) v' w.heap.size := by
            refine ⟨c, ty, cs', by simp, I.fut.size, I.hr.bs, ?_, k1, k2, k3⟩
            rintro ⟨B, b, e, q1, q2, q3⟩
            have := I.hr.b_lt q1 q2
            omega
          have hpre : DPre P base W0 N ops ds f h v m0 w0 (fun j => if j = i then w.heap.size else kap j) (fun j => if j = i then v' else nu j) (listed.setIfInBounds i true) (a.put o.dst v') { w with heap := w.heap.push (.cells c ty (0, 0)) } m t := by
            rw [← dd1]
            refine { hr := HRel.garbage I.hr c ty, fut := I.fut.trans hg, df := by rw [put_defers]; exact I.df, sz := by rw [put_size]; exact I.sz, lsz := by simpa using I.lsz, closed := hclosed, tn := I.tn, te := ?_, te3 := ?_, ts := I.ts, fa := ?_, fb := ?_, pend := ?_, pslot := ?_, inj := ?_ }
            · intro j e he hke
              have hji : j ≠ i := fun x => by subst x; rw [hd] at he; cases he; omega
              rw [getD_set_ne false (fun x => hji x.symm)]
              exact I.te j e he hke
            · intro j e he hke hlt
              exact getD_set_true (I.te3 j e he hke hlt)
            · intro s hs u hu
              have hsi : d.x.dst ≠ some s := hs i d hd (by simp [hil])
              rw [hslot _ s hsi]
              exact I.fa s (fun j e hj hjl => hs j e hj (getD_set_true hjl)) u hu
            · intro s j e hj hjl hes hlt hmax u hu
              by_cases hsi : d.x.dst = some s
              · have hji := hlast s j e hj hjl hes hsi hmax
                subst hji
                rw [hd] at hj; cases hj
                have := hlt hk3
                omega
              · have hji : j ≠ i := fun x => by subst x; rw [hd] at hj; cases hj; exact hsi hes
                rw [hslot _ s hsi]
                exact I.fb s j e hj (by rwa [getD_set_ne false (fun x => hji x.symm)] at hjl) hes hlt (fun k ek hk hkl hks => hmax k ek hk (getD_set_true hkl) hks) u hu
            · intro j e he hke hjl htj
              by_cases hji : j = i
              · subst hji
                rw [hd] at he; cases he
                simp only [if_true]
                exact ⟨blk, b1, b2, b3, b4, hpend⟩
              · simp only [if_neg hji]
                obtain ⟨bk, c1, c2, c3, c4, hp⟩ := I.pend j e he hke (by rwa [getD_set_ne false (fun x => hji x.symm)] at hjl) htj
                exact ⟨bk, c1, c2, c3, c4, hp.fut hg⟩
            · intro s j e he hke hjl htj hes hmax
              by_cases hji : j = i
              · subst hji
                rw [hd] at he; cases he
                simp only [if_true]
                exact hself v' s hes
              · simp only [if_neg hji]
                have hsi : d.x.dst ≠ some s := fun hsi => hji (hlast s j e he hjl hes hsi hmax)
                rw [hslot _ s hsi]
                exact I.pslot s j e he hke (by rwa [getD_set_ne false (fun x => hji x.symm)] at hjl) htj hes (fun k ek hk hkl hks => hmax k ek hk (getD_set_true hkl) hks)
            · intro j j' e e' he he' hke hke' hjl hjl' htj htj' hne
              have klt : ∀ (q : Nat) (eq : XDop), ds[q]? = some eq → eq.kind = 3 → (listed.setIfInBounds i true).getD q false = true → t ≤ q → q ≠ i → kap q < w.heap.size := by
                intro q eq hq hkq hql htq hqi
                obtain ⟨bk, c1, c2, c3, c4, hp⟩ := I.pend q eq hq hkq (by rwa [getD_set_ne false (fun x => hqi x.symm)] at hql) htq
                exact hp.lt
              by_cases hji : j = i
              · have hji' : j' ≠ i := fun x => hne (by rw [hji, x])
                have := klt j' e' he' hke' hjl' htj' hji'
                simp only [if_pos hji, if_neg hji']
                omega
              · by_cases hji' : j' = i
                · have := klt j e he hke hjl htj hji
                  simp only [if_neg hji, if_pos hji']
                  omega
                · simp only [if_neg hji, if_neg hji']
                  exact I.inj j j' e e' he he' hke hke' (by rwa [getD_set_ne false (fun x => hji x.symm)] at hjl) (by rwa [getD_set_ne false (fun x => hji' x.symm)] at hjl') htj htj' hne
          obtain ⟨m2, t2', I2, L2⟩ := settle (fun k d hd => (t5' k d hd).2.1) hconst (fun k d hd hk => by rcases hk23 k d hd with q | q | q | q <;> omega) _ t m (Nat.le_refl _) hpre
          exact ih _ _ _ _ _ _ _ I2 L2 hcount
        · -- the value and the heap at the stage at hand
          have hval : ∃ t', xval P call d.x ((f i).keep d.rd) (h t) = some (v i, h t') ∧ t ≤ t' ∧ t' ≤ ds.length ∧ (∀ (j : Nat) (e : XDop), ds[j]? = some e → e.kind = 2 → ((listed.setIfInBounds i true).getD j false = true ↔ j < t')) ∧
              (∀ (j : Nat) (e : XDop), ds[j]? = some e → e.kind = 3 → j < t' → (listed.setIfInBounds i true).getD j false = true) ∧
              (t' = 0 ∨ ∃ (j : Nat) (e : XDop), ds[j]? = some e ∧ 2 ≤ e.kind ∧ t' = j + 1) ∧
              (∀ (j : Nat) (e : XDop), ds[j]? = some e → e.kind = 3 → listed.getD j false = true → j < t' → j < t) := by
            have same : d.kind ≠ 2 → ∀ (j : Nat) (e : XDop), ds[j]? = some e → e.kind = 2 → ((listed.setIfInBounds i true).getD j false = true ↔ j < t) := by
              intro hk j e he hke
              have hji : j ≠ i := fun x => by subst x; rw [hd] at he; cases he; exact hk hke
              rw [getD_set_ne false (fun x => hji x.symm)]
              exact I.te j e he hke
            have same3 : ∀ (j : Nat) (e : XDop), ds[j]? = some e → e.kind = 3 → j < t → (listed.setIfInBounds i true).getD j false = true := fun j e he hke hlt => getD_set_true (I.te3 j e he hke hlt)
            rcases kindX_le d.x with kk | kk | kk | kk
            · have hk2 : d.kind ≠ 2 := by rw [hkind, kk]; simp
              exact ⟨t, (xval_pure (kindX_of kk (by omega)) r1 (h t)).2, Nat.le_refl _, I.tn, same hk2, same3, I.ts, fun _ _ _ _ _ x => x⟩
            · have hk1 : d.kind = 1 := by rw [hkind, kk]
              have hk2 : d.kind ≠ 2 := by rw [hk1]; simp
              have kk := kindX_of kk (by omega)
              refine ⟨t, ?_, Nat.le_refl _, I.tn, same hk2, same3, I.ts, fun _ _ _ _ _ x => x⟩
              by_cases hown : ownSt ks i t = true
              · -- no effect between
                unfold ownSt at hown
                simp only [Bool.and_eq_true, Nat.ble_eq] at hown
                have : h i = h t := hconst i t hown.1 (Nat.le_of_lt hin) fun k e a1 a2 he => by
                  have := List.all_eq_true.1 hown.2 k (List.mem_range.2 a2)
                  simp only [Bool.or_eq_true] at this
                  rcases this with h' | h'
                  · have := natlt h'; omega
                  · intro hke
                    obtain ⟨_, _, _, _, _, g⟩ := hds k e he
                    rw [g] at h'
                    have e1 : Nat.ble 2 e.kind = true := by rw [Nat.ble_eq]; omega
                    rw [e1] at h'; simp at h'
                rw [← this]
                have hrd := xval_read kk r1
                rw [hrd] at r1; exact r1
              · have hmem : t ∈ stabList ms ks i := by
                  unfold stabList
                  rw [List.mem_filter]
                  constructor
                  · unfold stages
                    rcases I.ts with rfl | ⟨j, e, he, hke, rfl⟩
                    · simp
                    · refine List.mem_cons_of_mem _ (List.mem_map.2 ⟨j, List.mem_filter.2 ⟨List.mem_range.2 ?_, ?_⟩, rfl⟩)
                      · rw [hkl]; exact (List.getElem?_eq_some_iff.1 he).1
                      · obtain ⟨_, _, _, _, _, g⟩ := hds j e he
                        rw [g, Nat.ble_eq]; omega
                  · simp only [Bool.and_eq_true, List.all_eq_true, List.mem_range]
                    refine ⟨by simpa using hown, fun j hj => ?_⟩
                    obtain ⟨e, he, hke⟩ := hks j (by rw [← hkl]; exact hj)
                    rw [hke]
                    constructor
                    · by_cases hk2' : e.kind = 2
                      · simp only [hk2', Bool.or_eq_true, Bool.not_eq_true']
                        right
                        cases hb : (ms.getD i 0).testBit j
                        · exact .inl rfl
                        · right
                          have hexj := mask_closed hdep (fun k => listed.getD k false = true) I.closed i o ho hedge j hb
                          have := (I.te j e he hk2').1 hexj
                          simp [Nat.blt]; omega
                      · have : Nat.beq e.kind 2 = false := by rw [Tr.beq_eq]; simp [hk2']
                        rw [this]; simp
                    · cases hb2 : Nat.ble 2 e.kind
                      · simp
                      · simp only [Bool.not_true, Bool.false_or, Bool.or_eq_true, Bool.not_eq_true']
                        cases hb : (ms.getD j 0).testBit i
                        · exact .inl rfl
                        · right
                          cases hbl : Nat.blt j t
                          · rfl
                          · exfalso
                            have hexj : listed.getD j false = true := by
                              have h2 := Nat.le_of_ble_eq_true hb2
                              rcases hk23 j e he with q | q | q | q
                              · omega
                              · omega
                              · exact (I.te j e he q).2 (natlt hbl)
                              · exact I.te3 j e he q (natlt hbl)
                            have hjn : j < ops.size := by rw [← hlen, ← hkl]; exact hj
                            have := mask_closed hdep (fun k => listed.getD k false = true) I.closed j _ (Array.getElem?_eq_getElem hjn) (I.closed j _ hexj (Array.getElem?_eq_getElem hjn)) i hb
                            rw [hno] at this; simp at this
                have hst2 : d.stab = stabList ms ks i := by rw [hstb, hk1]; rfl
                have hne : d.stab ≠ [] := by rw [hst2]; intro x; rw [x] at hmem; cases hmem
                have hso := List.all_eq_true.1 hstab _ (r3 hne)
                unfold stabOk at hso
                have := List.all_eq_true.1 hso t (by simp only [hst2]; exact hmem)
                simp only at this
                split at this
                · rename_i Ht hHt
                  have hHt' : Ht = h t := by
                    rcases t6 _ (heapAt_mem _ _ _ hHt) with hp | ⟨k, e, _, _, hp⟩
                    · simp only [List.mem_singleton, Prod.mk.injEq] at hp
                      rw [hp.2, hp.1, ← t2]
                    · simp only [Prod.mk.injEq] at hp
                      rw [hp.2, hp.1]
                  subst hHt'
                  split at this
                  · rename_i rr hrr
                    have hv := veq_eq this
                    have h2 := xval_read kk hrr
                    rw [hrr, hv, ← h2]
                  · simp at this
                · simp at this
            · have hk2 : d.kind = 2 := by rw [hkind, kk]
              have hbt : ∀ (j : Nat) (e : XDop), ds[j]? = some e → e.kind = 2 → j ≠ i → (j < i → listed.getD j false = true) ∧ (i < j → listed.getD j false = false) := fun j e he hke hji =>
                bit j ((pairOk_spec hpair hd he (fun x => hji x.symm)).1 hk2 hke) hji
              have hbt3 : ∀ (j : Nat) (e : XDop), ds[j]? = some e → e.kind = 3 → j < i → listed.getD j false = true := fun j e he hke hji =>
                (bit j ((pairOk_spec hpair hd he (by omega)).2.2.1 hk2 hke hji) (by omega)).1 hji
              have heff : ∀ (j : Nat) (e : XDop), ds[j]? = some e → 2 ≤ e.kind → j < i → listed.getD j false = true := by
                intro j e he hke hji
                rcases hk23 j e he with q | q | q | q
                · omega
                · omega
                · exact (hbt j e he q (by omega)).1 hji
                · exact hbt3 j e he q hji
              have hti : t ≤ i := by
                rcases Nat.lt_or_ge i t with h' | h'
                · rw [(I.te i d hd hk2).2 h'] at hno; cases hno
                · exact h'
              have hhi : h i = h t := hconst i t hti (Nat.le_of_lt hin) fun k e a1 a2 he hke => by
                have hlk := heff k e he hke a2
                rcases hk23 k e he with q | q | q | q
                · omega
                · omega
                · have := (I.te k e he q).1 hlk; omega
                · obtain ⟨j', d', x1, x2, x3, x4, x5⟩ := hlate k e he q hlk a1
                  rw [heff j' d' x3 x4 (by omega)] at x5; cases x5
              refine ⟨i + 1, by rw [← hhi]; exact r1, by omega, hin, fun j e he hke => ?_, fun j e he hke hlt => ?_, .inr ⟨i, d, hd, by omega, rfl⟩, fun j e he hke hjl hlt => ?_⟩
              · by_cases hji : j = i
                · subst hji
                  simp [hil]
                · rw [getD_set_ne false (fun x => hji x.symm)]
                  rcases Nat.lt_or_ge j i with h' | h'
                  · exact ⟨fun _ => by omega, fun _ => (hbt j e he hke hji).1 h'⟩
                  · exact ⟨fun hx => by rw [(hbt j e he hke hji).2 (by omega)] at hx; simp at hx, fun hx => by omega⟩
              · by_cases hji : j = i
                · subst hji; simp [hil]
                · exact getD_set_true (hbt3 j e he hke (by omega))
              · rcases Nat.lt_or_ge j t with h' | h'
                · exact h'
                · exfalso
                  have hji : j ≠ i := fun x => by subst x; rw [hno] at hjl; cases hjl
                  obtain ⟨j', d', x1, x2, x3, x4, x5⟩ := hlate j e he hke hjl h'
                  rw [heff j' d' x3 x4 (by omega)] at x5; cases x5
            · exact absurd (by rw [hkind, kk]) hk3
          obtain ⟨t', hxv, htt, htn, hte, hte3, hts, htl⟩ := hval
          refine wpOp_mono ?_ (xval_wpOp hcall ho hco hxv I.hr hfr Q)
          rintro a' w' ⟨m', v', rfl, k1, k2, k3⟩
          have hpre : DPre P base W0 N ops ds f h v m0 w0 kap nu (listed.setIfInBounds i true) (a.put o.dst v') w' m' t' := by
            rw [← dd1]
            refine { hr := k1, fut := I.fut.trans k2, df := by rw [put_defers]; exact I.df, sz := by rw [put_size]; exact I.sz, lsz := by simpa using I.lsz, closed := hclosed, tn := htn, te := hte, te3 := hte3, ts := hts, fa := ?_, fb := ?_, pend := ?_, pslot := ?_, inj := ?_ }
            · intro s hs u hu
              have hsi : d.x.dst ≠ some s := hs i d hd (by simp [hil])
              rw [hslot _ s hsi]
              obtain ⟨v', g1, g2⟩ := I.fa s (fun j e hj hjl => hs j e hj (getD_set_true hjl)) u hu
              exact ⟨v', g1, g2.mono k2.ext⟩
            · intro s j e hj hjl hes hlt hmax u hu
              by_cases hsi : d.x.dst = some s
              · have hji := hlast s j e hj hjl hes hsi hmax
                subst hji
                rw [hd] at hj; cases hj
                rw [r2, Fr.get_put?, if_pos hsi] at hu
                cases hu
                exact ⟨v', hself v' s hsi, k3⟩
              · have hji : j ≠ i := fun x => by subst x; rw [hd] at hj; cases hj; exact hsi hes
                rw [hslot _ s hsi]
                have hjl' : listed.getD j false = true := by rwa [getD_set_ne false (fun x => hji x.symm)] at hjl
                obtain ⟨v', g1, g2⟩ := I.fb s j e hj hjl' hes (fun hke => htl j e hj hke hjl' (hlt hke)) (fun k ek hk hkl hks => hmax k ek hk (getD_set_true hkl) hks) u hu
                exact ⟨v', g1, g2.mono k2.ext⟩
            · intro j e he hke hjl htj
              have hji : j ≠ i := fun x => by subst x; rw [hd] at he; cases he; exact hk3 hke
              obtain ⟨bk, c1, c2, c3, c4, hp⟩ := I.pend j e he hke (by rwa [getD_set_ne false (fun x => hji x.symm)] at hjl) (by omega)
              exact ⟨bk, c1, c2, c3, c4, hp.fut k2⟩
            · intro s j e he hke hjl htj hes hmax
              have hji : j ≠ i := fun x => by subst x; rw [hd] at he; cases he; exact hk3 hke
              have hsi : d.x.dst ≠ some s := fun hsi => hji (hlast s j e he hjl hes hsi hmax)
              rw [hslot _ s hsi]
              exact I.pslot s j e he hke (by rwa [getD_set_ne false (fun x => hji x.symm)] at hjl) (by omega) hes (fun k ek hk hkl hks => hmax k ek hk (getD_set_true hkl) hks)
            · intro j j' e e' he he' hke hke' hjl hjl' htj htj' hne
              have hji : j ≠ i := fun x => by subst x; rw [hd] at he; cases he; exact hk3 hke
              have hji' : j' ≠ i := fun x => by subst x; rw [hd] at he'; cases he'; exact hk3 hke'
              exact I.inj j j' e e' he he' hke hke' (by rwa [getD_set_ne false (fun x => hji x.symm)] at hjl) (by rwa [getD_set_ne false (fun x => hji' x.symm)] at hjl') (by omega) (by omega) hne
          obtain ⟨m2, t2', I2, L2⟩ := settle (fun k d hd => (t5' k d hd).2.1) hconst (fun k d hd hk => by rcases hk23 k d hd with q | q | q | q <;> omega) _ t' m' (Nat.le_refl _) hpre
          exact ih _ _ _ _ _ _ _ I2 L2 hcount
  have norep : ∀ k, ¬ (Array.replicate ops.size false).getD k false = true := by
    intro k hk
    by_cases hks : k < ops.size
    · simp [Array.getD, hks] at hk
    · simp [Array.getD, hks] at hk
  refine main ops.size (fun _ => 0) (fun _ => undef) _ a0 w0 m0 0 ?_ ?_ (by simp)
  · refine { hr := by rw [t2]; exact hst.hr, fut := by rw [t2]; exact .refl m0 H w0, df := hst.df, sz := hst.sz, lsz := by simp [hlen], closed := ?_, tn := Nat.zero_le _, te := ?_, te3 := fun j d _ _ hj => by omega, ts := .inl rfl, fa := ?_, fb := ?_, pend := ?_, pslot := ?_, inj := ?_ }
    · intro k o hk
      exact absurd hk (norep k)
    · intro j d hd _
      exact ⟨fun hk => absurd hk (norep j), fun hx => by omega⟩
    · intro s _ u hu
      rw [t1] at hu
      exact hst.fr s u hu
    · intro s i d _ hk
      exact absurd hk (norep i)
    · intro j d _ _ hk
      exact absurd hk (norep j)
    · intro s j d _ _ hk
      exact absurd hk (norep j)
    · intro j j' d d' _ _ _ _ hk
      exact absurd hk (norep j)
  · intro j d _ _ hk
    exact absurd hk (norep j)

end Go.Det
