/- A part of a run of a program on a heap of its own, and that the machine does what that run says: no condition but those that each theorem names. -/
import Derived.Test.YtbkmkelohlmblaaDet20
set_option linter.unusedSimpArgs false
set_option linter.unusedVariables false
namespace Go.Det
variable {H H' : AH} {sz n : Nat} {v s : Value} {cs : List Value}

/-- where a slice's element lies -/
def ptrAt (s : Value) (k : Nat) : Value :=
  match s with
  | .slice (some ⟨B, o, none⟩) _ _ => .pointer (some ⟨B, o + k, none⟩)
  | _ => .nilFunc

theorem blt_of {a b : Nat} (h : a < b) : Nat.blt a b = true := by simp [Nat.blt]; omega
theorem ble_of {a b : Nat} (h : a ≤ b) : Nat.ble a b = true := by simpa using h

theorem Sl.live (h : Sl H sz s n cs) (hn : 0 < n) : ∃ B o c blk, s = .slice (some ⟨B, o, none⟩) n c ∧ B < H.n ∧ H.get B = some blk ∧ blk.sz = sz ∧ n ≤ c ∧ o + c * sz ≤ blk.cells.length ∧ (blk.cells.drop o).take (n * sz) = cs := by
  rcases h with ⟨_, h, _⟩ | ⟨_, _, _, _, _, h, _⟩ | h
  · omega
  · omega
  · exact h

theorem Sl.len (h : Sl H sz s n cs) : cs.length = n * sz := by
  rcases h with ⟨_, h1, h2⟩ | ⟨_, _, _, _, _, h1, h2⟩ | ⟨B, o, c, blk, _, _, _, _, h5, h6, h7⟩
  · simp [h1, h2]
  · simp [h1, h2]
  · have : n * sz ≤ c * sz := Nat.mul_le_mul_right _ h5
    rw [← h7, List.length_take, List.length_drop]; omega

theorem pLen_ok (h : Sl H sz s n cs) : pLen s H = some (.int .i64 (n : Int), H) := by
  rcases h with ⟨rfl, rfl, _⟩ | ⟨B, o, rfl, _, _, rfl, _⟩ | ⟨B, o, c, blk, rfl, _⟩ <;> rfl

theorem pIdx_ok (h : Sl H sz s n cs) (kd : IntKind) (i : Int) (k : Nat) (hi : i = (k : Int)) (hk : k < n) : pIdx sz s (.int kd i) H = some (ptrAt s (k * sz), H) := by
  obtain ⟨B, o, c, blk, rfl, h1, h2, h3, h4, h5, h6⟩ := h.live (by omega)
  subst hi
  show (bif Nat.blt k n && Nat.ble n c then some (Value.pointer (some ⟨B, o + k * sz, none⟩), H) else none) = _
  rw [blt_of hk, ble_of h4]
  rfl

theorem pIdx_one (h : Sl H 1 s n cs) (kd : IntKind) (i : Int) (k : Nat) (hi : i = (k : Int)) (hk : k < n) : pIdx 1 s (.int kd i) H = some (ptrAt s k, H) := by
  rw [pIdx_ok h kd i k hi hk, Nat.mul_one]

theorem Sl.cell (h : Sl H sz s n cs) (j : Nat) (a : Value) (hj : cs[j]? = some a) : ∃ B o c blk, s = .slice (some ⟨B, o, none⟩) n c ∧ H.get B = some blk ∧ blk.cells[o + j]? = some a := by
  rcases h with ⟨_, h1, h2⟩ | ⟨_, _, _, _, _, h1, h2⟩ | ⟨B, o, c, blk, h1, h2, h3, h4, h5, h6, h7⟩
  · simp [h2] at hj
  · simp [h2] at hj
  · refine ⟨B, o, c, blk, h1, h3, ?_⟩
    rw [← h7] at hj
    have hlt := (List.getElem?_eq_some_iff.1 hj).1
    rw [List.length_take] at hlt
    rw [List.getElem?_take, if_pos (by omega), List.getElem?_drop] at hj
    exact hj

theorem pLd_one (h : Sl H sz s n cs) (j : Nat) (a : Value) (hj : cs[j]? = some a) : pLd none (ptrAt s j) H = some (a, H) := by
  obtain ⟨B, o, c, blk, rfl, h1, h2⟩ := h.cell j a hj
  show ((H.get B).bind fun blk => (partV blk.cells (o + j) none).map fun v => (v, H)) = _
  rw [h1]
  show ((blk.cells[o + j]?).map fun v => (v, H)) = _
  rw [h2]; rfl

/-- a slice of ours, in a block that is not older than n0 -/
def Own (n0 : Nat) (sz : Nat) (H : AH) (v : Value) (n : Nat) (cs : List Value) : Prop :=
  Sl H sz v n cs ∧ ∀ B o l c, v = .slice (some ⟨B, o, none⟩) l c → n0 ≤ B ∧ ∃ blk, H.get B = some blk ∧ blk.ro = false

def inB (v : Value) (b : Nat) : Prop := ∃ o l c, v = .slice (some ⟨b, o, none⟩) l c

/-- what was there up to n0 is there -/
def Keep (n0 : Nat) (H H' : AH) : Prop := H.n ≤ H'.n ∧ ∀ b, b < n0 → H'.get b = H.get b

theorem Keep.refl (n0 : Nat) (H : AH) : Keep n0 H H := ⟨Nat.le_refl _, fun _ _ => rfl⟩
theorem Keep.trans {n0 : Nat} {A B C : AH} (h : Keep n0 A B) (k : Keep n0 B C) : Keep n0 A C := ⟨Nat.le_trans h.1 k.1, fun b hb => (k.2 b hb).trans (h.2 b hb)⟩
theorem Keep.le {n0 n1 : Nat} {A B : AH} (h : Keep n1 A B) (hl : n0 ≤ n1) : Keep n0 A B := ⟨h.1, fun b hb => h.2 b (by omega)⟩
theorem Keep.ext {A B : AH} (h : Keep A.n A B) : HExt A B := h
theorem HExt.keep {A B : AH} (h : HExt A B) {n0 : Nat} (hl : n0 ≤ A.n) : Keep n0 A B := ⟨h.1, fun b hb => h.2 b (by omega)⟩
theorem hext_push (H : AH) (x : Blk) : HExt H (H.push x) := ⟨by simp, fun B hB => by rw [AH.get_push, if_neg (by omega)]⟩

theorem Own.ext {n0 : Nat} (hx : HExt H H') (h : Own n0 sz H v n cs) : Own n0 sz H' v n cs := by
  refine ⟨h.1.ext hx, fun B o l c e => ?_⟩
  obtain ⟨h1, blk, h2, h3⟩ := h.2 B o l c e
  refine ⟨h1, blk, ?_, h3⟩
  rcases h.1 with ⟨h4, _⟩ | ⟨B', o', h4, h5, _⟩ | ⟨B', o', c', blk', h4, h5, _⟩
  · rw [h4] at e; cases e
  · rw [h4] at e; cases e; rw [hx.2 _ h5]; exact h2
  · rw [h4] at e; cases e; rw [hx.2 _ h5]; exact h2

theorem Own.le {n0 n1 : Nat} (h : Own n1 sz H v n cs) (hl : n0 ≤ n1) : Own n0 sz H v n cs := ⟨h.1, fun B o l c e => let ⟨a, b⟩ := h.2 B o l c e; ⟨by omega, b⟩⟩

theorem Own.nil (n0 : Nat) (sz : Nat) (H : AH) : Own n0 sz H (.slice none 0 0) 0 [] := ⟨.inl ⟨rfl, rfl, rfl⟩, fun B o l c e => by cases e⟩

theorem Sl.keep {n0 : Nat} (hk : Keep n0 H H') (h : Sl H sz s n cs) (hb : ∀ b, inB s b → b < n0) : Sl H' sz s n cs := by
  rcases h with h | ⟨B, o, h1, h2, h3, h4⟩ | ⟨B, o, c, blk, h1, h2, h3, h4⟩
  · exact .inl h
  · exact .inr (.inl ⟨B, o, h1, Nat.lt_of_lt_of_le h2 hk.1, (hk.2 B (hb B ⟨_, _, _, h1⟩)).trans h3, h4⟩)
  · exact .inr (.inr ⟨B, o, c, blk, h1, Nat.lt_of_lt_of_le h2 hk.1, (hk.2 B (hb B ⟨_, _, _, h1⟩)).trans h3, h4⟩)

theorem Sl.lt (h : Sl H sz s n cs) {b : Nat} (hb : inB s b) : b < H.n := by
  obtain ⟨o', l', c', e⟩ := hb
  rcases h with ⟨h, _⟩ | ⟨B, o, h1, h2, _⟩ | ⟨B, o, c, blk, h1, h2, _⟩
  · rw [h] at e; cases e
  · rw [h1] at e; cases e; exact h2
  · rw [h1] at e; cases e; exact h2

theorem Sl.pushed (H : AH) (cs : List Value) (sz n : Nat) (opn ro : Bool) (h : cs.length = n * sz) : Sl (H.push ⟨cs, sz, opn, ro⟩) sz (.slice (some ⟨H.n, 0, none⟩) n n) n cs := by
  refine .inr (.inr ⟨H.n, 0, n, _, rfl, by simp, by rw [AH.get_push, if_pos rfl], rfl, Nat.le_refl _, by simp [h], ?_⟩)
  simp [← h]

theorem Own.pushed (H : AH) (cs : List Value) (sz n : Nat) (opn : Bool) (h : cs.length = n * sz) : Own H.n sz (H.push ⟨cs, sz, opn, false⟩) (.slice (some ⟨H.n, 0, none⟩) n n) n cs :=
  ⟨.pushed H cs sz n opn false h, fun B o l c e => by cases e; exact ⟨Nat.le_refl _, _, by rw [AH.get_push, if_pos rfl], rfl⟩⟩

/-- a step that changes nothing old but one slice's block -/
structure Stp (v : Value) (H : AH) (v' : Value) (H' : AH) : Prop where
  n : H.n ≤ H'.n
  get : ∀ b, b < H.n → ¬ inB v b → H'.get b = H.get b
  new : ∀ b, inB v' b → inB v b ∨ H.n ≤ b

theorem Stp.keep {n0 : Nat} {v' : Value} (h : Stp v H v' H') (ho : Own n0 sz H v n cs) (hn : n0 ≤ H.n) : Keep n0 H H' :=
  ⟨h.n, fun b hb => h.get b (by omega) fun ⟨o, l, c, e⟩ => by have := (ho.2 b o l c e).1; omega⟩

/-- another slice stays -/
theorem Own.stp {n0 : Nat} {u v' : Value} (h : Stp v H v' H') (ho : Own n0 sz H u n cs) (hd : ∀ b, inB u b → ¬ inB v b) : Own n0 sz H' u n cs := by
  obtain ⟨h1, h2⟩ := ho
  have key : ∀ b, inB u b → H'.get b = H.get b := fun b hb => h.get b (h1.lt hb) (hd b hb)
  refine ⟨?_, fun B o l c e => ?_⟩
  · rcases h1 with h1 | ⟨B, o, h1, h2, h3, h4⟩ | ⟨B, o, c, blk, h1, h2, h3, h4⟩
    · exact .inl h1
    · exact .inr (.inl ⟨B, o, h1, Nat.lt_of_lt_of_le h2 h.n, (key B ⟨_, _, _, h1⟩).trans h3, h4⟩)
    · exact .inr (.inr ⟨B, o, c, blk, h1, Nat.lt_of_lt_of_le h2 h.n, (key B ⟨_, _, _, h1⟩).trans h3, h4⟩)
  · obtain ⟨a, blk, b, c⟩ := h2 B o l c e
    exact ⟨a, blk, (key B ⟨_, _, _, e⟩).trans b, c⟩

theorem Stp.apart {n0 : Nat} {u v' : Value} (h : Stp v H v' H') (ho : Own n0 sz H u n cs) (hd : ∀ b, inB u b → ¬ inB v b) : ∀ b, inB u b → ¬ inB v' b := by
  intro b hu hv
  rcases h.new b hv with h1 | h1
  · exact hd b hu h1
  · have := ho.1.lt hu; omega

theorem src_ok (h : Sl H sz s n cs) (h1 : cs.all one = true) : srcLen s = some n ∧ src H sz n s = some cs := by
  rcases h with ⟨rfl, rfl, rfl⟩ | ⟨B, o, rfl, _, h2, rfl, rfl⟩ | ⟨B, o, c, blk, rfl, h2, h3, h4, h5, h6, h7⟩
  · exact ⟨rfl, rfl⟩
  · refine ⟨rfl, ?_⟩
    show (match H.get B with | some blk => _ | none => _) = _
    rw [h2]; rfl
  · refine ⟨rfl, ?_⟩
    have h8 : n * sz ≤ c * sz := Nat.mul_le_mul_right _ h5
    unfold src
    simp only [h3]
    rw [ble_of (Nat.le_refl n), ble_of (by omega : o + n * sz ≤ blk.cells.length), h7, h1]
    rfl

theorem splice_take {cs vs : List Value} {off : Nat} (h : off + vs.length ≤ cs.length) : (splice cs off vs).length = cs.length := by
  unfold splice; simp; omega

/-- AN APPEND -/
theorem xappC_own {n0 : Nat} {m : Nat} {ds : List Value} {bytes : Nat} {Q : Value → AH → Prop} (ho : Own n0 sz H v n cs) (hn : n0 ≤ H.n) (hdl : ds.length = m * sz)
    (hsz : 1 ≤ sz) (hby : 1 ≤ bytes) (hle : (n + m) * bytes ≤ 140737488355328) (hq : ∀ v' H', Own n0 sz H' v' (n + m) (cs ++ ds) → Stp v H v' H' → Q v' H') : Got (xappC H sz bytes m ds v) Q := by
  obtain ⟨h2, h3⟩ := ho
  have hcl := h2.len
  rcases h2 with ⟨rfl, rfl, rfl⟩ | ⟨B, o, rfl, _, hg, rfl, rfl⟩ | ⟨B, o, c, blk, rfl, g1, g2, g3, g4, g5, g6⟩
  · unfold xappC
    simp only []
    rcases Nat.eq_zero_or_pos m with h0 | h0
    · subst h0
      refine ⟨_, _, rfl, ?_⟩
      have hds : ds = [] := List.length_eq_zero_iff.1 (by simpa using hdl)
      subst hds
      exact hq _ _ (Own.nil _ _ _) ⟨Nat.le_refl _, fun _ _ _ => rfl, fun b h => .inl h⟩
    · have hb : Nat.beq m 0 = false := by rw [Tr.beq_eq]; simp; omega
      simp only [Nat.zero_add] at hle
      rw [hb, ble_of hle, ble_of hby]
      refine ⟨_, _, rfl, ?_⟩
      have hp := Own.pushed H ds sz m true hdl
      refine hq _ _ (by simpa using hp.le hn) ⟨by simp, fun b hb _ => by rw [AH.get_push, if_neg (by omega)], fun b h => ?_⟩
      obtain ⟨o, l, c, e⟩ := h
      cases e
      exact .inr (Nat.le_refl _)
  · obtain ⟨_, blk, hb, _⟩ := h3 B o 0 0 rfl
    rw [hg] at hb; simp at hb
  · obtain ⟨hn0, blk', hb', hro⟩ := h3 B o n c rfl
    rw [g2] at hb'; cases hb'
    have h8 : n * sz ≤ c * sz := Nat.mul_le_mul_right _ g4
    unfold xappC
    simp only [g2]
    rw [g3, show Nat.beq sz sz = true by simp, ble_of g4, ble_of g5, ble_of hsz]
    simp only [Bool.not_true, Bool.or_false, cond_false]
    rcases Nat.eq_zero_or_pos m with h0 | h0
    · subst h0
      refine ⟨_, _, rfl, ?_⟩
      have hds : ds = [] := List.length_eq_zero_iff.1 (by simpa using hdl)
      subst hds
      exact hq _ _ (by simpa using ⟨.inr (.inr ⟨B, o, c, blk, rfl, g1, g2, g3, g4, g5, g6⟩), h3⟩) ⟨Nat.le_refl _, fun _ _ _ => rfl, fun b h => .inl h⟩
    · have hb : Nat.beq m 0 = false := by rw [Tr.beq_eq]; simp; omega
      rw [hb]
      simp only [cond_false]
      rcases Nat.lt_or_ge c (n + m) with hc | hc
      · -- a new block
        have hb2 : Nat.ble (n + m) c = false := by cases h : Nat.ble (n + m) c with
          | false => rfl
          | true => have := Nat.le_of_ble_eq_true h; omega
        rw [hb2, ble_of hle, ble_of hby]
        simp only [cond_false, Bool.and_true, Bool.not_true]
        have hlen : ((blk.cells.drop o).take (n * sz) ++ ds).length = (n + m) * sz := by rw [g6, List.length_append, hcl, hdl, Nat.add_mul]
        have fin : ∀ H1 : AH, H1.n = H.n → (∀ b, b < H.n → b ≠ B → H1.get b = H.get b) → Q (.slice (some ⟨H.n, 0, none⟩) (n + m) (n + m)) (H1.push ⟨(blk.cells.drop o).take (n * sz) ++ ds, sz, true, false⟩) := by
          intro H1 e3 e4
          have hp := Own.pushed H1 _ sz (n + m) true hlen
          rw [e3, g6] at hp
          rw [g6]
          refine hq _ _ (hp.le hn) ⟨by simp [e3], fun b hb hnb => ?_, fun b h => ?_⟩
          · rw [AH.get_push, if_neg (by omega)]
            refine e4 b hb fun e => hnb ?_
            subst e; exact ⟨_, _, _, rfl⟩
          · obtain ⟨o, l, c, e⟩ := h
            cases e
            exact .inr (Nat.le_refl _)
        cases hcond : (!blk.opn || Nat.blt (o + c * sz) blk.cells.length)
        · simp only [cond_false, hro]
          refine ⟨_, _, rfl, ?_⟩
          exact fin (H.kill B) rfl fun b hb hne => by rw [AH.get_kill, if_neg hne]
        · simp only [cond_true]
          refine ⟨_, _, rfl, ?_⟩
          exact fin H rfl fun b hb hne => rfl
      · rw [ble_of hc]
        simp only [cond_true, hro, cond_false]
        refine ⟨_, _, rfl, ?_⟩
        have h9 : (n + m) * sz ≤ c * sz := Nat.mul_le_mul_right _ hc
        have h10 : (n + m) * sz = n * sz + m * sz := Nat.add_mul _ _ _
        have hsl : (splice blk.cells (o + n * sz) ds).length = blk.cells.length := splice_take (by omega)
        refine hq _ _ ⟨?_, ?_⟩ ⟨Nat.le_refl _, fun b hb hnb => ?_, fun b h => ?_⟩
        · refine .inr (.inr ⟨B, o, c, ⟨splice blk.cells (o + n * sz) ds, sz, blk.opn, false⟩, rfl, g1, by rw [AH.get_set, if_pos rfl], rfl, hc, by simpa [hsl] using g5, ?_⟩)
          have a1 : (blk.cells.take (o + n * sz)).length = o + n * sz := by rw [List.length_take]; omega
          show ((splice blk.cells (o + n * sz) ds).drop o).take ((n + m) * sz) = cs ++ ds
          unfold splice
          rw [List.append_assoc, List.drop_append_of_le_length (by omega), List.drop_take, show o + n * sz - o = n * sz by omega, g6, ← List.append_assoc]
          rw [List.take_append_of_le_length (by rw [List.length_append]; omega), List.take_of_length_le (by rw [List.length_append]; omega)]
        · intro B' o' l' c' e
          cases e
          exact ⟨hn0, ⟨splice blk.cells (o + n * sz) ds, sz, blk.opn, false⟩, by rw [AH.get_set, if_pos rfl], rfl⟩
        · rw [AH.get_set, if_neg ?_]
          intro e; subst e
          exact hnb ⟨_, _, _, rfl⟩
        · obtain ⟨o', l', c', e⟩ := h
          cases e
          exact .inl ⟨_, _, _, rfl⟩

theorem xapp_own {n0 : Nat} {y : Value} {m : Nat} {ds : List Value} {bytes : Nat} {Q : Value → AH → Prop} (ho : Own n0 sz H v n cs) (hn : n0 ≤ H.n) (hs : Sl H sz y m ds) (h1 : ds.all one = true)
    (hsz : 1 ≤ sz) (hby : 1 ≤ bytes) (hle : (n + m) * bytes ≤ 140737488355328) (hq : ∀ v' H', Own n0 sz H' v' (n + m) (cs ++ ds) → Stp v H v' H' → Q v' H') : Got (xapp H sz bytes v y) Q := by
  obtain ⟨e1, e2⟩ := src_ok hs h1
  unfold xapp
  simp only [e1, e2]
  exact xappC_own ho hn hs.len hsz hby hle hq
/-- AN APPEND OF ZEROS -/
theorem xappN_own {n0 : Nat} {m : Nat} {zs : List Value} {bytes : Nat} {k : IntKind} {Q : Value → AH → Prop} (ho : Own n0 sz H v n cs) (hn : n0 ≤ H.n) (hz : zs.length = sz) (h1 : (rep m zs).all one = true)
    (hsz : 1 ≤ sz) (hby : 1 ≤ bytes) (hle : (n + m) * bytes ≤ 140737488355328) (hq : ∀ v' H', Own n0 sz H' v' (n + m) (cs ++ rep m zs) → Stp v H v' H' → Q v' H') : Got (xappN H sz bytes zs v (.int k (m : Int))) Q := by
  have h2 : m * bytes ≤ (n + m) * bytes := Nat.mul_le_mul_right _ (by omega)
  have h3 : m ≤ m * bytes := Nat.le_mul_of_pos_right _ hby
  show Got (bif Nat.ble (m * bytes) 140737488355328 && Nat.ble m 140737488355328 && (rep m zs).all one then xappC H sz bytes m (rep m zs) v else none) Q
  rw [ble_of (by omega : m * bytes ≤ 140737488355328), ble_of (by omega : m ≤ 140737488355328), h1]
  exact xappC_own ho hn (by rw [rep_length, hz]) hsz hby hle hq

/-- A STORE -/
theorem pSt_own {n0 : Nat} {j : Nat} {x : Value} {Q : Value → AH → Prop} (ho : Own n0 sz H v n cs) (hj : j < cs.length) (h1 : one x = true) (hv : vcells x = [x])
    (hq : ∀ H', Own n0 sz H' v n (cs.set j x) → Stp v H v H' → Q undef H') : Got (pSt 1 (ptrAt v j) x H) Q := by
  obtain ⟨h2, h3⟩ := ho
  obtain ⟨B, o, c, blk, rfl, g1, g2⟩ := h2.cell j _ (List.getElem?_eq_getElem hj)
  obtain ⟨hn0, blk', hb', hro⟩ := h3 B o n c rfl
  rw [g1] at hb'; cases hb'
  have hlt : o + j < blk.cells.length := (List.getElem?_eq_some_iff.1 g2).1
  unfold pSt ptrAt
  simp only [g1, Option.bind_some, hv, List.length_singleton, List.all_cons, List.all_nil, h1, hro]
  rw [ble_of (by omega : o + j + 1 ≤ blk.cells.length)]
  refine ⟨_, _, rfl, ?_⟩
  have hsp : splice blk.cells (o + j) [x] = blk.cells.set (o + j) x := by
    unfold splice
    rw [List.set_eq_take_append_cons_drop, if_pos hlt]
    simp
  refine hq _ ⟨?_, fun B' o' l' c' e => ?_⟩ ⟨Nat.le_refl _, fun b hb hnb => ?_, fun b h => .inl h⟩
  · rcases h2 with ⟨e, _⟩ | ⟨B', o', e, _, _, _, hcs⟩ | ⟨B', o', c', blk', e, k1, k2, k3, k4, k5, k6⟩
    · cases e
    · rw [hcs] at hj; simp at hj
    · cases e
      rw [g1] at k2; cases k2
      refine .inr (.inr ⟨B, o, c, ⟨splice blk.cells (o + j) [x], blk.sz, blk.opn, false⟩, rfl, k1, by rw [AH.get_set, if_pos rfl], k3, k4, ?_, ?_⟩)
      · show o + c * sz ≤ (splice blk.cells (o + j) [x]).length
        rw [hsp]; simpa using k5
      · show ((splice blk.cells (o + j) [x]).drop o).take (n * sz) = _
        rw [hsp, ← k6, List.drop_set, if_neg (by omega), List.take_set, show o + j - o = j by omega]
  · cases e
    exact ⟨hn0, ⟨splice blk.cells (o + j) [x], blk.sz, blk.opn, false⟩, by rw [AH.get_set, if_pos rfl], rfl⟩
  · rw [AH.get_set, if_neg ?_]
    intro e; subst e
    exact hnb ⟨_, _, _, rfl⟩

/-- A SLICE OF A SLICE, with its room to the end -/
theorem xslc_ok {lo hi : Option Value} {i h : Nat} (hs : Sl H sz s n cs) (hl : natOf 0 lo = some i) (hh : natOf n hi = some h) (h1 : i ≤ h) (h2 : h ≤ n) :
    ∃ s', xslc H sz s lo hi none = some s' ∧ Sl H sz s' (h - i) ((cs.drop (i * sz)).take ((h - i) * sz)) ∧ (∀ b, inB s' b ↔ inB s b) ∧ (∀ n0, Own n0 sz H s n cs → Own n0 sz H s' (h - i) ((cs.drop (i * sz)).take ((h - i) * sz))) := by
  rcases hs with ⟨rfl, rfl, rfl⟩ | ⟨B, o, rfl, hlt, hg, rfl, rfl⟩ | ⟨B, o, c, blk, rfl, g1, g2, g3, g4, g5, g6⟩
  · have h0 : h = 0 := by omega
    have i0 : i = 0 := by omega
    subst h0 i0
    refine ⟨.slice none 0 0, ?_, ?_, fun b => Iff.rfl, fun n0 ho => by simpa using ho⟩
    · unfold xslc
      simp only [hl, hh, show natOf 0 (none : Option Value) = some 0 from rfl]
    · exact .inl ⟨rfl, rfl, by simp⟩
  · have h0 : h = 0 := by omega
    have i0 : i = 0 := by omega
    subst h0 i0
    refine ⟨.slice (some ⟨B, o, none⟩) 0 0, ?_, ?_, fun b => Iff.rfl, fun n0 ho => by simpa using ho⟩
    · unfold xslc
      simp only [hg, hl, hh, isSomeV]
      rfl
    · exact .inr (.inl ⟨B, o, rfl, hlt, hg, rfl, by simp⟩)
  · have hsl : Sl H sz (.slice (some ⟨B, o + i * sz, none⟩) (h - i) (c - i)) (h - i) ((cs.drop (i * sz)).take ((h - i) * sz)) := by
      refine .inr (.inr ⟨B, o + i * sz, c - i, blk, rfl, g1, g2, g3, by omega, ?_, ?_⟩)
      · have : i * sz + (c - i) * sz = c * sz := by rw [← Nat.add_mul]; congr 1; omega
        omega
      · rw [← g6, List.drop_take, List.take_take, List.drop_drop]
        congr 1
        have : i * sz + (h - i) * sz ≤ n * sz := by rw [← Nat.add_mul]; exact Nat.mul_le_mul_right _ (by omega)
        omega
    refine ⟨_, ?_, hsl, fun b => ?_, fun n0 ho => ⟨hsl, fun B' o' l' c' e => ?_⟩⟩
    · unfold xslc
      simp only [g2, hl, hh, show natOf c (none : Option Value) = some c from rfl, isSomeV]
      rw [g3, show Nat.beq sz sz = true by simp, ble_of h1, ble_of (by omega : h ≤ c), ble_of (Nat.le_refl c)]
      rfl
    · constructor
      · rintro ⟨o', l', c', e⟩; cases e; exact ⟨_, _, _, rfl⟩
      · rintro ⟨o', l', c', e⟩; cases e; exact ⟨_, _, _, rfl⟩
    · cases e
      exact ho.2 B o n c rfl

/-! numbers -/
def OwnI (n0 : Nat) (H : AH) (v : Value) (l : List Int) : Prop := Own n0 1 H v l.length (l.map (.int .i64))

theorem ints_one (l : List Int) (k : IntKind) : (l.map (Value.int k)).all one = true := by
  refine List.all_eq_true.2 fun z hz => ?_
  simp only [List.mem_map] at hz
  obtain ⟨b, _, rfl⟩ := hz
  rfl

theorem OwnI.nil (n0 : Nat) (H : AH) : OwnI n0 H (.slice none 0 0) [] := Own.nil n0 1 H

/-- one number more -/
theorem app_one {n0 : Nat} {acc : List Int} {x : Int} {Q : Value → AH → Prop} (ho : OwnI n0 H v acc) (hn : n0 ≤ H.n) (hle : acc.length + 1 ≤ 17592186044416)
    (hq : ∀ v' H', OwnI n0 H' v' (acc ++ [x]) → Stp v H v' H' → Q v' H') : Got (xapp (H.push ⟨[.int .i64 x], 1, false, false⟩) 1 8 v (.slice (some ⟨H.n, 0, none⟩) 1 1)) Q := by
  refine xapp_own (Own.ext (hext_push H _) ho) (by simp; omega) (Sl.pushed H [.int .i64 x] 1 1 false false rfl) rfl (Nat.le_refl _) (by omega) (by omega) ?_
  intro v' H' h1 h2
  refine hq v' H' (by simpa [OwnI] using h1) ⟨by have := h2.n; simp at this; omega, fun b hb hnb => ?_, fun b h => ?_⟩
  · rw [h2.get b (by simp; omega) hnb, AH.get_push, if_neg (by omega)]
  · rcases h2.new b h with h | h
    · exact .inl h
    · exact .inr (by simp at h; omega)

theorem ints_idx {l : List Int} (h : Ints H s l) (i : Int) (k : Nat) (hi : i = (k : Int)) (hk : k < l.length) : pIdx 1 s (.int .i64 i) H = some (ptrAt s k, H) := pIdx_one h .i64 i k hi hk
theorem ints_ld {l : List Int} (h : Ints H s l) (k : Nat) (a : Int) (ha : l[k]? = some a) : pLd none (ptrAt s k) H = some (.int .i64 a, H) := pLd_one h k _ (by simp [ha])
end Go.Det
