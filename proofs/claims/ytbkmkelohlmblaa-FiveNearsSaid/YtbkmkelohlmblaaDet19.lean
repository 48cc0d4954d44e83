/- A part of a run of a program on a heap of its own, and that the machine does what that run says: no condition but those that each theorem names. -/
import Derived.Test.YtbkmkelohlmblaaDet18
set_option linter.unusedSimpArgs false
set_option linter.unusedVariables false
namespace Go.Det

/-! ### slices and what they hold -/
/-- The cells of a slice of n elements: a nil, an empty one without a block, or one in a block of ours. -/
def Sl (H : AH) (sz : Nat) (v : Value) (n : Nat) (cs : List Value) : Prop :=
  (v = .slice none 0 0 ∧ n = 0 ∧ cs = []) ∨
  (∃ B o, v = .slice (some ⟨B, o, none⟩) 0 0 ∧ B < H.n ∧ H.get B = none ∧ n = 0 ∧ cs = []) ∨
  (∃ B o c blk, v = .slice (some ⟨B, o, none⟩) n c ∧ B < H.n ∧ H.get B = some blk ∧ blk.sz = sz ∧ n ≤ c ∧ o + c * sz ≤ blk.cells.length ∧ (blk.cells.drop o).take (n * sz) = cs)

def Ints (H : AH) (v : Value) (l : List Int) : Prop := Sl H 1 v l.length (l.map (.int .i64))

/-- what was there is there -/
def HExt (H H' : AH) : Prop := H.n ≤ H'.n ∧ ∀ B, B < H.n → H'.get B = H.get B

theorem HExt.refl (H : AH) : HExt H H := ⟨Nat.le_refl _, fun _ _ => rfl⟩
theorem HExt.trans {A B C : AH} (h : HExt A B) (k : HExt B C) : HExt A C := ⟨Nat.le_trans h.1 k.1, fun b hb => (k.2 b (Nat.lt_of_lt_of_le hb h.1)).trans (h.2 b hb)⟩

theorem Sl.ext {H H' : AH} (hx : HExt H H') {sz : Nat} {v : Value} {n : Nat} {cs : List Value} (h : Sl H sz v n cs) : Sl H' sz v n cs := by
  rcases h with h | ⟨B, o, h1, h2, h3, h4⟩ | ⟨B, o, c, blk, h1, h2, h3, h4⟩
  · exact .inl h
  · exact .inr (.inl ⟨B, o, h1, Nat.lt_of_lt_of_le h2 hx.1, (hx.2 B h2).trans h3, h4⟩)
  · exact .inr (.inr ⟨B, o, c, blk, h1, Nat.lt_of_lt_of_le h2 hx.1, (hx.2 B h2).trans h3, h4⟩)

/-! ### the start of a law: its arguments -/
def IsRow (k : IntKind) (w : World) (a : Option Addr) (len cap : Nat) (zs : List Int) : Prop :=
  (a = none ∧ len = 0 ∧ cap = 0 ∧ zs = []) ∨
  ∃ x, a = some x ∧ len ≤ cap ∧ cap ≤ maxLen ∧ zs.length = cap ∧ (∀ i, i < zs.length → w.cell? (x.add i) = some (.int k (zs.getD i 0))) ∧ ∀ n ∈ zs, (Lit.int k n).wf = true

structure Start (G : Nat) (w : World) (m : Mp) (H : AH) : Prop where
  hr : HRel G w.heap.size w m H w
  ro : ∀ B blk, H.get B = some blk → blk.ro = true

def m0 (G : Nat) : Mp := ⟨fun g => if g < G then some ⟨g, 0, 0, 0, 1, false, true⟩ else none⟩

theorem Start.first (G : Nat) (w : World) : Start G w (m0 G) ⟨G, .leaf⟩ := by
  have hn : ∀ B, (AH.mk G .leaf).get B = none := fun B => rfl
  refine ⟨{ below := .refl _ _, bs := Nat.le_refl _, live := fun B blk h => by rw [hn] at h; simp at h, dom := ?_, apart := fun B B' blk blk' e e' h => by rw [hn] at h; simp at h, glob := ⟨Nat.le_refl _, fun g hg => ⟨⟨g, 0, 0, 0, 1, false, true⟩, by simp [m0, hg], rfl, rfl⟩⟩ }, fun B blk h => by rw [hn] at h; simp at h⟩
  intro B e h
  simp only [m0] at h
  split at h
  · rename_i hB
    simp at h; subst h
    exact ⟨hB, Nat.one_pos⟩
  · simp at h

theorem Start.fresh {G : Nat} {w : World} {m : Mp} {H : AH} (h : Start G w m H) : H.get H.n = none := by
  cases hg : H.get H.n with
  | none => rfl
  | some blk =>
    obtain ⟨e, he, _⟩ := h.hr.live _ _ hg
    have := (h.hr.dom _ _ he).1
    omega

def mput (m : Mp) (k : Nat) (e : Ent) : Mp := ⟨fun B => if B = k then some e else m.f B⟩

theorem Start.ext {G : Nat} {w : World} {m : Mp} {H : AH} (h : Start G w m H) (e : Ent) : m.Ext (mput m H.n e) := by
  intro B e' he
  have := (h.hr.dom B e' he).1
  have hne : ¬ B = H.n := by omega
  simp [mput, hne, he]

theorem Start.push {G : Nat} {w : World} {m : Mp} {H : AH} (h : Start G w m H) (blk : Blk) (e : Ent) (hsz : 0 < e.sz) (hro : blk.ro = true) (hat : BlkAt (mput m H.n e) w.heap.size blk e w) :
    Start G w (mput m H.n e) (H.push blk) := by
  have hx := h.ext e
  refine ⟨{ below := h.hr.below, bs := h.hr.bs, live := ?_, dom := ?_, apart := ?_, glob := ?_ }, ?_⟩
  · intro B b hb
    rw [AH.get_push] at hb
    split at hb
    · rename_i hB
      simp at hb; subst hb; subst hB
      exact ⟨e, by simp [mput], hat⟩
    · obtain ⟨e', he', hk⟩ := h.hr.live B b hb
      refine ⟨e', hx _ _ he', { kn := hk.kn, sz := hk.sz, opn := hk.opn, ro := hk.ro, at_ := ?_ }⟩
      obtain ⟨c, t, fz, k1, k2, k3, k4, k5⟩ := hk.at_
      refine ⟨c, t, fz, k1, k2, k3, ?_, k5⟩
      intro i v hi
      obtain ⟨v', g1, g2⟩ := k4 i v hi
      exact ⟨v', g1, g2.mono hx⟩
  · intro B e' he
    simp only [mput] at he
    split at he
    · rename_i hB
      simp at he; subst he; subst hB
      exact ⟨by simp, hsz⟩
    · have := h.hr.dom B e' he
      exact ⟨by simp; omega, this.2⟩
  · intro B B' b b' e1 e2 h1 h2 h3 h4 hne hrf
    exfalso
    rw [AH.get_push] at h1
    split at h1
    · rename_i hB
      simp at h1; subst h1; subst hB
      simp [mput] at h3; subst h3
      rw [hat.ro, hro] at hrf; simp at hrf
    · rename_i hB
      simp only [mput, hB, if_false] at h3
      have := h.ro B b h1
      obtain ⟨e', he', hk⟩ := h.hr.live B b h1
      rw [h3] at he'; cases he'
      rw [hk.ro, this] at hrf; simp at hrf
  · refine ⟨by have := h.hr.glob.1; simp; omega, fun g hg => ?_⟩
    obtain ⟨e', he', h2⟩ := h.hr.glob.2 g hg
    exact ⟨e', hx _ _ he', h2⟩
  · intro B b hb
    rw [AH.get_push] at hb
    split at hb
    · simp at hb; subst hb; exact hro
    · exact h.ro B b hb

/-- a number without a block -/
theorem Start.dead {G : Nat} {w : World} {m : Mp} {H : AH} (h : Start G w m H) (e : Ent) (hsz : 0 < e.sz) : Start G w (mput m H.n e) ⟨H.n + 1, H.t⟩ := by
  have hx := h.ext e
  have hg : ∀ B, (AH.mk (H.n + 1) H.t).get B = H.get B := fun B => rfl
  refine ⟨{ below := h.hr.below, bs := h.hr.bs, live := ?_, dom := ?_, apart := ?_, glob := ?_ }, fun B b hb => h.ro B b hb⟩
  · intro B b hb
    obtain ⟨e', he', hk⟩ := h.hr.live B b hb
    refine ⟨e', hx _ _ he', { kn := hk.kn, sz := hk.sz, opn := hk.opn, ro := hk.ro, at_ := ?_ }⟩
    obtain ⟨c, t, fz, k1, k2, k3, k4, k5⟩ := hk.at_
    refine ⟨c, t, fz, k1, k2, k3, ?_, k5⟩
    intro i v hi
    obtain ⟨v', g1, g2⟩ := k4 i v hi
    exact ⟨v', g1, g2.mono hx⟩
  · intro B e' he
    simp only [mput] at he
    split at he
    · rename_i hB
      simp at he; subst he; subst hB
      exact ⟨Nat.lt_succ_self _, hsz⟩
    · have := h.hr.dom B e' he
      exact ⟨Nat.lt_succ_of_lt this.1, this.2⟩
  · intro B B' b b' e1 e2 h1 h2 h3 h4 hne hrf
    exfalso
    have h1' : H.get B = some b := h1
    have hlt := h.hr.lt h1'
    have hB : ¬ B = H.n := by omega
    simp only [mput, hB, if_false] at h3
    have := h.ro B b h1'
    obtain ⟨e', he', hk⟩ := h.hr.live B b h1'
    rw [h3] at he'; cases he'
    rw [hk.ro, this] at hrf; simp at hrf
  · refine ⟨Nat.le_succ_of_le h.hr.glob.1, fun g hg => ?_⟩
    obtain ⟨e', he', h2⟩ := h.hr.glob.2 g hg
    exact ⟨e', hx _ _ he', h2⟩

theorem Start.row {G : Nat} {w : World} {m : Mp} {H : AH} (h : Start G w m H) {a : Option Addr} {len cap : Nat} {zs : List Int} (hrow : IsRow .i64 w a len cap zs) :
    ∃ m' H' v, Start G w m' H' ∧ m.Ext m' ∧ HExt H H' ∧ VRel m' v (.slice a len cap) ∧ Ints H' v (zs.take len) := by
  rcases hrow with ⟨rfl, rfl, rfl, rfl⟩ | ⟨x, rfl, hl, hm, hz, hcell, hwf⟩
  · exact ⟨m, H, .slice none 0 0, h, .refl m, .refl H, .nils, .inl ⟨rfl, rfl, rfl⟩⟩
  · rcases Nat.eq_zero_or_pos cap with h0 | h0
    · have hl0 : len = 0 := by omega
      subst h0 hl0
      refine ⟨mput m H.n ⟨0, 0, 0, 0, 1, false, true⟩, ⟨H.n + 1, H.t⟩, .slice (some ⟨H.n, 0, none⟩) 0 0, h.dead _ Nat.one_pos, h.ext _, ⟨Nat.le_succ _, fun _ _ => rfl⟩, ?_, ?_⟩
      · exact .sl0 H.n 0 0 x ⟨0, 0, 0, 0, 1, false, true⟩ (by simp [mput]) (fun _ => rfl) (fun hn => absurd (.inl rfl) hn) (fun hc => absurd rfl hc)
      · exact .inr (.inl ⟨H.n, 0, rfl, Nat.lt_succ_self _, h.fresh, by simp, by simp⟩)
    · -- the block in the world
      have hsp : ∀ i, i < cap → ∃ v, w.cell? (x.add i) = some v := fun i hi => ⟨_, hcell i (by omega)⟩
      obtain ⟨xb, xo, xs⟩ := x
      have h00 := hcell 0 (by omega)
      obtain ⟨c, t, fz, hw, hsn⟩ : ∃ c t fz, w.heap[xb]? = some (.cells c t fz) ∧ xs = none := by
        cases xs with
        | some q =>
          exfalso
          simp only [World.cell?, Addr.add] at h00
          cases hb : w.heap[xb]? with
          | none => simp [hb] at h00
          | some ob => cases ob <;> simp [hb] at h00
        | none =>
          simp only [World.cell?, Addr.add] at h00
          cases hb : w.heap[xb]? with
          | none => simp [hb] at h00
          | some ob =>
            cases ob <;> simp [hb] at h00
            exact ⟨_, _, _, rfl, rfl⟩
      subst hsn
      have hin : ∀ i, i < cap → c[xo + i]? = some (.int .i64 (zs.getD i 0)) := by
        intro i hi
        have := hcell i (by omega)
        have e : (Addr.add ⟨xb, xo, none⟩ i) = ⟨xb, xo + i, none⟩ := by
          unfold Addr.add
          by_cases h : i = 0
          · subst h; simp
          · simp [h]
        rw [e] at this
        simpa [World.cell?, hw] using this
      have hcs : xo + cap ≤ c.size := by
        have h2 := hin (cap - 1) (by omega)
        have h3 := (Array.getElem?_eq_some_iff.1 h2).1
        omega
      have hlen : (zs.map (Value.int .i64)).length = cap := by simp [hz]
      refine ⟨mput m H.n ⟨xb, xo, c.size, cap, 1, false, true⟩, H.push ⟨zs.map (.int .i64), 1, false, true⟩, .slice (some ⟨H.n, 0, none⟩) len cap, h.push _ _ Nat.one_pos rfl ?_, h.ext _, ⟨by simp, fun B hB => ?_⟩, ?_, ?_⟩
      · refine { kn := hlen.symm, sz := rfl, opn := rfl, ro := rfl, at_ := ⟨c, t, fz, hw, rfl, hcs, ?_, by simp⟩ }
        intro i v hi
        have hi' : i < cap := by
          have h3 : i < (zs.map (Value.int .i64)).length := (List.getElem?_eq_some_iff.1 hi).1
          omega
        refine ⟨.int .i64 (zs.getD i 0), hin i hi', ?_⟩
        have : v = .int .i64 (zs.getD i 0) := by
          rw [List.getElem?_map] at hi
          rw [List.getD_eq_getElem?_getD, List.getElem?_eq_getElem (by omega)]
          rw [List.getElem?_eq_getElem (by omega)] at hi
          simp at hi
          simp [hi]
        rw [this]; exact .int _ _
      · rw [AH.get_push, if_neg (by omega)]
      · have := VRel.sl (m := mput m H.n ⟨xb, xo, c.size, cap, 1, false, true⟩) H.n 0 len cap cap ⟨xb, xo, c.size, cap, 1, false, true⟩ (by simp [mput]) h0 hl (Nat.le_refl _) (fun _ => rfl) (fun hn => absurd (.inl rfl) hn) (by simp; omega)
        simpa using this
      · refine .inr (.inr ⟨H.n, 0, cap, _, ?_, by simp, by rw [AH.get_push, if_pos rfl], rfl, ?_, ?_, ?_⟩)
        · rw [List.length_take, Nat.min_eq_left (by omega)]
        · rw [List.length_take]; omega
        · simp [hz]
        · have e : min len zs.length = len := by omega
          simp only [List.drop_zero, Nat.mul_one, List.length_take, List.map_take, e]

/-- THE END OF A LAW: the run gives true. -/
theorem Start.calls {P : Program} {w : World} {m : Mp} {H H' : AH} (h : Start P.globals.size w m H) {f : FuncId} {args args' : List Value} (hl : LRel m args args')
    (hc : CallOk P f args H (.bool true) H') : Calls P f args'.toArray w fun e w' => e = .returned (.bool true) ∧ Go.RowKit.Below w.heap.size w w' := by
  refine (hc w.heap.size w m w args' h.hr hl).mono ?_
  rintro e w' ⟨m', v', rfl, hr, _, hv⟩
  cases hv
  exact ⟨rfl, hr.below⟩

theorem LRel.one {m : Mp} {v v' : Value} (h : VRel m v v') : LRel m [v] [v'] := ⟨rfl, fun i x hi => by
  cases i with
  | zero => simp at hi; subst hi; exact ⟨v', rfl, h⟩
  | succ i => simp at hi⟩
end Go.Det
