/- What runs of the program's functions compute, on a heap of the run's own, and that the machine does what such a run says: the conditions stand in each theorem. -/
import Derived.OpenShut
import Derived.MakeChecks
import Derived.LaidHandle
import Derived.Test.YtjeifppefhplhaaDoorBkM2
set_option linter.unusedSimpArgs false
set_option linter.unusedVariables false
namespace Go.Det
variable {H H' : AH} {sz n : Nat} {v s : Value} {cs : List Value}

/-- where a slice's element lies -/
def ptrAt (s : Value) (k : Nat) : Value :=
  match s with
  | .slice (some ⟨B, o, none⟩) _ _ => .pointer (some ⟨B, o + k, none⟩)
  | _ => .nilFunc

theorem blt_of {a b : Nat} (h : a < b) : Nat.blt a b = true := by simp [Nat.blt]; omega
theorem ble_of {a b : Nat} (h : a ≤ b) : Nat.ble a b = true := by simpa using h

theorem Sl.live (h : Sl H sz s n cs) (hn : 0 < n) : ∃ B o c blk, s = .slice (some ⟨B, o, none⟩) n c ∧ B < H.n ∧ H.get B = some blk ∧ blk.sz = sz ∧ n ≤ c ∧ o + c * sz ≤ blk.cells.length ∧ (blk.cells.drop o).take (n * sz) = cs := by
  rcases h with ⟨_, h, _⟩ | ⟨_, _, _, _, _, h, _⟩ | h
  · omega
  · omega
  · exact h

theorem Sl.len (h : Sl H sz s n cs) : cs.length = n * sz := by
  rcases h with ⟨_, h1, h2⟩ | ⟨_, _, _, _, _, h1, h2⟩ | ⟨B, o, c, blk, _, _, _, _, h5, h6, h7⟩
  · simp [h1, h2]
  · simp [h1, h2]
  · have : n * sz ≤ c * sz := Nat.mul_le_mul_right _ h5
    rw [← h7, List.length_take, List.length_drop]; omega

theorem pLen_ok (h : Sl H sz s n cs) : pLen s H = some (.int .i64 (n : Int), H) := by
  rcases h with ⟨rfl, rfl, _⟩ | ⟨B, o, rfl, _, _, rfl, _⟩ | ⟨B, o, c, blk, rfl, _⟩ <;> rfl

theorem pIdx_ok (h : Sl H sz s n cs) (kd : IntKind) (i : Int) (k : Nat) (hi : i = (k : Int)) (hk : k < n) : pIdx sz s (.int kd i) H = some (ptrAt s (k * sz), H) := by
  obtain ⟨B, o, c, blk, rfl, h1, h2, h3, h4, h5, h6⟩ := h.live (by omega)
  subst hi
  show (bif Nat.blt k n && Nat.ble n c then some (Value.pointer (some ⟨B, o + k * sz, none⟩), H) else none) = _
  rw [blt_of hk, ble_of h4]
  rfl

theorem pIdx_one (h : Sl H 1 s n cs) (kd : IntKind) (i : Int) (k : Nat) (hi : i = (k : Int)) (hk : k < n) : pIdx 1 s (.int kd i) H = some (ptrAt s k, H) := by
  rw [pIdx_ok h kd i k hi hk, Nat.mul_one]

theorem Sl.cell (h : Sl H sz s n cs) (j : Nat) (a : Value) (hj : cs[j]? = some a) : ∃ B o c blk, s = .slice (some ⟨B, o, none⟩) n c ∧ H.get B = some blk ∧ blk.cells[o + j]? = some a := by
  rcases h with ⟨_, h1, h2⟩ | ⟨_, _, _, _, _, h1, h2⟩ | ⟨B, o, c, blk, h1, h2, h3, h4, h5, h6, h7⟩
  · simp [h2] at hj
  · simp [h2] at hj
  · refine ⟨B, o, c, blk, h1, h3, ?_⟩
    rw [← h7] at hj
    have hlt := (List.getElem?_eq_some_iff.1 hj).1
    rw [List.length_take] at hlt
    rw [List.getElem?_take, if_pos (by omega), List.getElem?_drop] at hj
    exact hj

theorem pLd_one (h : Sl H sz s n cs) (j : Nat) (a : Value) (hj : cs[j]? = some a) : pLd none (ptrAt s j) H = some (a, H) := by
  obtain ⟨B, o, c, blk, rfl, h1, h2⟩ := h.cell j a hj
  show ((H.get B).bind fun blk => (partV blk.cells (o + j) none).map fun v => (v, H)) = _
  rw [h1]
  show ((blk.cells[o + j]?).map fun v => (v, H)) = _
  rw [h2]; rfl

/-- a slice of ours, in a block that is not older than n0 -/
def Own (n0 : Nat) (sz : Nat) (H : AH) (v : Value) (n : Nat) (cs : List Value) : Prop :=
  Sl H sz v n cs ∧ ∀ B o l c, v = .slice (some ⟨B, o, none⟩) l c → n0 ≤ B ∧ ∃ blk, H.get B = some blk ∧ blk.ro = false

def inB (v : Value) (b : Nat) : Prop := ∃ o l c, v = .slice (some ⟨b, o, none⟩) l c

/-- what was there up to n0 is there -/
def Keep (n0 : Nat) (H H' : AH) : Prop := H.n ≤ H'.n ∧ ∀ b, b < n0 → H'.get b = H.get b

theorem Keep.refl (n0 : Nat) (H : AH) : Keep n0 H H := ⟨Nat.le_refl _, fun _ _ => rfl⟩
theorem Keep.trans {n0 : Nat} {A B C : AH} (h : Keep n0 A B) (k : Keep n0 B C) : Keep n0 A C := ⟨Nat.le_trans h.1 k.1, fun b hb => (k.2 b hb).trans (h.2 b hb)⟩
theorem Keep.le {n0 n1 : Nat} {A B : AH} (h : Keep n1 A B) (hl : n0 ≤ n1) : Keep n0 A B := ⟨h.1, fun b hb => h.2 b (by omega)⟩
theorem Keep.ext {A B : AH} (h : Keep A.n A B) : HExt A B := h
theorem HExt.keep {A B : AH} (h : HExt A B) {n0 : Nat} (hl : n0 ≤ A.n) : Keep n0 A B := ⟨h.1, fun b hb => h.2 b (by omega)⟩
theorem hext_push (H : AH) (x : Blk) : HExt H (H.push x) := ⟨by simp, fun B hB => by rw [AH.get_push, if_neg (by omega)]⟩

theorem Own.ext {n0 : Nat} (hx : HExt H H') (h : Own n0 sz H v n cs) : Own n0 sz H' v n cs := by
  refine ⟨h.1.ext hx, fun B o l c e => ?_⟩
  obtain ⟨h1, blk, h2, h3⟩ := h.2 B o l c e
  refine ⟨h1, blk, ?_, h3⟩
  rcases h.1 with ⟨h4, _⟩ | ⟨B', o', h4, h5, _⟩ | ⟨B', o', c', blk', h4, h5, _⟩
  · rw [h4] at e; cases e
  · rw [h4] at e; cases e; rw [hx.2 _ h5]; exact h2
  · rw [h4] at e; cases e; rw [hx.2 _ h5]; exact h2

theorem Own.le {n0 n1 : Nat} (h : Own n1 sz H v n cs) (hl : n0 ≤ n1) : Own n0 sz H v n cs := ⟨h.1, fun B o l c e => let ⟨a, b⟩ := h.2 B o l c e; ⟨by omega, b⟩⟩

theorem Own.nil (n0 : Nat) (sz : Nat) (H : AH) : Own n0 sz H (.slice none 0 0) 0 [] := ⟨.inl ⟨rfl, rfl, rfl⟩, fun B o l c e => by cases e⟩

theorem Sl.keep {n0 : Nat} (hk : Keep n0 H H') (h : Sl H sz s n cs) (hb : ∀ b, inB s b → b < n0) : Sl H' sz s n cs := by
  rcases h with h | ⟨B, o, h1, h2, h3, h4⟩ | ⟨B, o, c, blk, h1, h2, h3, h4⟩
  · exact .inl h
  · exact .inr (.inl ⟨B, o, h1, Nat.lt_of_lt_of_le h2 hk.1, (hk.2 B (hb B ⟨_, _, _, h1⟩)).trans h3, h4⟩)
  · exact .inr (.inr ⟨B, o, c, blk, h1, Nat.lt_of_lt_of_le h2 hk.1, (hk.2 B (hb B ⟨_, _, _, h1⟩)).trans h3, h4⟩)

theorem Sl.lt (h : Sl H sz s n cs) {b : Nat} (hb : inB s b) : b < H.n := by
  obtain ⟨o', l', c', e⟩ := hb
  rcases h with ⟨h, _⟩ | ⟨B, o, h1, h2, _⟩ | ⟨B, o, c, blk, h1, h2, _⟩
  · rw [h] at e; cases e
  · rw [h1] at e; cases e; exact h2
  · rw [h1] at e; cases e; exact h2

theorem Sl.pushed (H : AH) (cs : List Value) (sz n : Nat) (opn ro : Bool) (h : cs.length = n * sz) : Sl (H.push ⟨cs, sz, opn, ro⟩) sz (.slice (some ⟨H.n, 0, none⟩) n n) n cs := by
  refine .inr (.inr ⟨H.n, 0, n, _, rfl, by simp, by rw [AH.get_push, if_pos rfl], rfl, Nat.le_refl _, by simp [h], ?_⟩)
  simp [← h]

theorem Own.pushed (H : AH) (cs : List Value) (sz n : Nat) (opn : Bool) (h : cs.length = n * sz) : Own H.n sz (H.push ⟨cs, sz, opn, false⟩) (.slice (some ⟨H.n, 0, none⟩) n n) n cs :=
  ⟨.pushed H cs sz n opn false h, fun B o l c e => by cases e; exact ⟨Nat.le_refl _, _, by rw [AH.get_push, if_pos rfl], rfl⟩⟩

/-- a step that changes nothing old but one slice's block -/
structure Stp (v : Value) (H : AH) (v' : Value) (H' : AH) : Prop where
  n : H.n ≤ H'.n
  get : ∀ b, b < H.n → ¬ inB v b → H'.get b = H.get b
  new : ∀ b, inB v' b → inB v b ∨ H.n ≤ b

theorem Stp.keep {n0 : Nat} {v' : Value} (h : Stp v H v' H') (ho : Own n0 sz H v n cs) (hn : n0 ≤ H.n) : Keep n0 H H' :=
  ⟨h.n, fun b hb => h.get b (by omega) fun ⟨o, l, c, e⟩ => by have := (ho.2 b o l c e).1; omega⟩

/-- another slice stays -/
theorem Own.stp {n0 : Nat} {u v' : Value} (h : Stp v H v' H') (ho : Own n0 sz H u n cs) (hd : ∀ b, inB u b → ¬ inB v b) : Own n0 sz H' u n cs := by
  obtain ⟨h1, h2⟩ := ho
  have key : ∀ b, inB u b → H'.get b = H.get b := fun b hb => h.get b (h1.lt hb) (hd b hb)
  refine ⟨?_, fun B o l c e => ?_⟩
  · rcases h1 with h1 | ⟨B, o, h1, h2, h3, h4⟩ | ⟨B, o, c, blk, h1, h2, h3, h4⟩
    · exact .inl h1
    · exact .inr (.inl ⟨B, o, h1, Nat.lt_of_lt_of_le h2 h.n, (key B ⟨_, _, _, h1⟩).trans h3, h4⟩)
    · exact .inr (.inr ⟨B, o, c, blk, h1, Nat.lt_of_lt_of_le h2 h.n, (key B ⟨_, _, _, h1⟩).trans h3, h4⟩)
  · obtain ⟨a, blk, b, c⟩ := h2 B o l c e
    exact ⟨a, blk, (key B ⟨_, _, _, e⟩).trans b, c⟩

theorem Stp.apart {n0 : Nat} {u v' : Value} (h : Stp v H v' H') (ho : Own n0 sz H u n cs) (hd : ∀ b, inB u b → ¬ inB v b) : ∀ b, inB u b → ¬ inB v' b := by
  intro b hu hv
  rcases h.new b hv with h1 | h1
  · exact hd b hu h1
  · have := ho.1.lt hu; omega

theorem src_ok (h : Sl H sz s n cs) (h1 : cs.all one = true) : srcLen s = some n ∧ src H sz n s = some cs := by
  rcases h with ⟨rfl, rfl, rfl⟩ | ⟨B, o, rfl, _, h2, rfl, rfl⟩ | ⟨B, o, c, blk, rfl, h2, h3, h4, h5, h6, h7⟩
  · exact ⟨rfl, rfl⟩
  · refine ⟨rfl, ?_⟩
    show (match H.get B with | some blk => _ | none => _) = _
    rw [h2]; rfl
  · refine ⟨rfl, ?_⟩
    have h8 : n * sz ≤ c * sz := Nat.mul_le_mul_right _ h5
    unfold src
    simp only [h3]
    rw [ble_of (Nat.le_refl n), ble_of (by omega : o + n * sz ≤ blk.cells.length), h7, h1]
    rfl

theorem splice_take {cs vs : List Value} {off : Nat} (h : off + vs.length ≤ cs.length) : (splice cs off vs).length = cs.length := by
  unfold splice; simp; omega

/-- AN APPEND -/
theorem xappC_own {n0 : Nat} {m : Nat} {ds : List Value} {bytes : Nat} {Q : Value → AH → Prop} (ho : Own n0 sz H v n cs) (hn : n0 ≤ H.n) (hdl : ds.length = m * sz)
    (hsz : 1 ≤ sz) (hby : 1 ≤ bytes) (hle : (n + m) * bytes ≤ 140737488355328) (hq : ∀ v' H', Own n0 sz H' v' (n + m) (cs ++ ds) → Stp v H v' H' → Q v' H') : Got (xappC H sz bytes m ds v) Q := by
  obtain ⟨h2, h3⟩ := ho
  have hcl := h2.len
  rcases h2 with ⟨rfl, rfl, rfl⟩ | ⟨B, o, rfl, _, hg, rfl, rfl⟩ | ⟨B, o, c, blk, rfl, g1, g2, g3, g4, g5, g6⟩
  · unfold xappC
    simp only []
    rcases Nat.eq_zero_or_pos m with h0 | h0
    · subst h0
      refine ⟨_, _, rfl, ?_⟩
      have hds : ds = [] := List.length_eq_zero_iff.1 (by simpa using hdl)
      subst hds
      exact hq _ _ (Own.nil _ _ _) ⟨Nat.le_refl _, fun _ _ _ => rfl, fun b h => .inl h⟩
    · have hb : Nat.beq m 0 = false := by rw [Tr.beq_eq]; simp; omega
      simp only [Nat.zero_add] at hle
      rw [hb, ble_of hle, ble_of hby]
      refine ⟨_, _, rfl, ?_⟩
      have hp := Own.pushed H ds sz m true hdl
      refine hq _ _ (by simpa using hp.le hn) ⟨by simp, fun b hb _ => by rw [AH.get_push, if_neg (by omega)], fun b h => ?_⟩
      obtain ⟨o, l, c, e⟩ := h
      cases e
      exact .inr (Nat.le_refl _)
  · obtain ⟨_, blk, hb, _⟩ := h3 B o 0 0 rfl
    rw [hg] at hb; simp at hb
  · obtain ⟨hn0, blk', hb', hro⟩ := h3 B o n c rfl
    rw [g2] at hb'; cases hb'
    have h8 : n * sz ≤ c * sz := Nat.mul_le_mul_right _ g4
    unfold xappC
    simp only [g2]
    rw [g3, show Nat.beq sz sz = true by simp, ble_of g4, ble_of g5, ble_of hsz]
    simp only [Bool.not_true, Bool.or_false, cond_false]
    rcases Nat.eq_zero_or_pos m with h0 | h0
    · subst h0
      refine ⟨_, _, rfl, ?_⟩
      have hds : ds = [] := List.length_eq_zero_iff.1 (by simpa using hdl)
      subst hds
      exact hq _ _ (by simpa using ⟨.inr (.inr ⟨B, o, c, blk, rfl, g1, g2, g3, g4, g5, g6⟩), h3⟩) ⟨Nat.le_refl _, fun _ _ _ => rfl, fun b h => .inl h⟩
    · have hb : Nat.beq m 0 = false := by rw [Tr.beq_eq]; simp; omega
      rw [hb]
      simp only [cond_false]
      rcases Nat.lt_or_ge c (n + m) with hc | hc
      · -- a new block
        have hb2 : Nat.ble (n + m) c = false := by cases h : Nat.ble (n + m) c with
          | false => rfl
          | true => have := Nat.le_of_ble_eq_true h; omega
        rw [hb2, ble_of hle, ble_of hby]
        simp only [cond_false, Bool.and_true, Bool.not_true]
        have hlen : ((blk.cells.drop o).take (n * sz) ++ ds).length = (n + m) * sz := by rw [g6, List.length_append, hcl, hdl, Nat.add_mul]
        have fin : ∀ H1 : AH, H1.n = H.n → (∀ b, b < H.n → b ≠ B → H1.get b = H.get b) → Q (.slice (some ⟨H.n, 0, none⟩) (n + m) (n + m)) (H1.push ⟨(blk.cells.drop o).take (n * sz) ++ ds, sz, true, false⟩) := by
          intro H1 e3 e4
          have hp := Own.pushed H1 _ sz (n + m) true hlen
          rw [e3, g6] at hp
          rw [g6]
          refine hq _ _ (hp.le hn) ⟨by simp [e3], fun b hb hnb => ?_, fun b h => ?_⟩
          · rw [AH.get_push, if_neg (by omega)]
            refine e4 b hb fun e => hnb ?_
            subst e; exact ⟨_, _, _, rfl⟩
          · obtain ⟨o, l, c, e⟩ := h
            cases e
            exact .inr (Nat.le_refl _)
        cases hcond : (!blk.opn || Nat.blt (o + c * sz) blk.cells.length)
        · simp only [cond_false, hro]
          refine ⟨_, _, rfl, ?_⟩
          exact fin (H.kill B) rfl fun b hb hne => by rw [AH.get_kill, if_neg hne]
        · simp only [cond_true]
          refine ⟨_, _, rfl, ?_⟩
          exact fin H rfl fun b hb hne => rfl
      · rw [ble_of hc]
        simp only [cond_true, hro, cond_false]
        refine ⟨_, _, rfl, ?_⟩
        have h9 : (n + m) * sz ≤ c * sz := Nat.mul_le_mul_right _ hc
        have h10 : (n + m) * sz = n * sz + m * sz := Nat.add_mul _ _ _
        have hsl : (splice blk.cells (o + n * sz) ds).length = blk.cells.length := splice_take (by omega)
        refine hq _ _ ⟨?_, ?_⟩ ⟨Nat.le_refl _, fun b hb hnb => ?_, fun b h => ?_⟩
        · refine .inr (.inr ⟨B, o, c, ⟨splice blk.cells (o + n * sz) ds, sz, blk.opn, false⟩, rfl, g1, by rw [AH.get_set, if_pos rfl], rfl, hc, by simpa [hsl] using g5, ?_⟩)
          have a1 : (blk.cells.take (o + n * sz)).length = o + n * sz := by rw [List.length_take]; omega
          show ((splice blk.cells (o + n * sz) ds).drop o).take ((n + m) * sz) = cs ++ ds
          unfold splice
          rw [List.append_assoc, List.drop_append_of_le_length (by omega), List.drop_take, show o + n * sz - o = n * sz by omega, g6, ← List.append_assoc]
          rw [List.take_append_of_le_length (by rw [List.length_append]; omega), List.take_of_length_le (by rw [List.length_append]; omega)]
        · intro B' o' l' c' e
          cases e
          exact ⟨hn0, ⟨splice blk.cells (o + n * sz) ds, sz, blk.opn, false⟩, by rw [AH.get_set, if_pos rfl], rfl⟩
        · rw [AH.get_set, if_neg ?_]
          intro e; subst e
          exact hnb ⟨_, _, _, rfl⟩
        · obtain ⟨o', l', c', e⟩ := h
          cases e
          exact .inl ⟨_, _, _, rfl⟩

theorem xapp_own {n0 : Nat} {y : Value} {m : Nat} {ds : List Value} {bytes : Nat} {Q : Value → AH → Prop} (ho : Own n0 sz H v n cs) (hn : n0 ≤ H.n) (hs : Sl H sz y m ds) (h1 : ds.all one = true)
    (hsz : 1 ≤ sz) (hby : 1 ≤ bytes) (hle : (n + m) * bytes ≤ 140737488355328) (hq : ∀ v' H', Own n0 sz H' v' (n + m) (cs ++ ds) → Stp v H v' H' → Q v' H') : Got (xapp H sz bytes v y) Q := by
  obtain ⟨e1, e2⟩ := src_ok hs h1
  unfold xapp
  simp only [e1, e2]
  exact xappC_own ho hn hs.len hsz hby hle hq
/-- A STORE -/
theorem pSt_own {n0 : Nat} {j : Nat} {x : Value} {Q : Value → AH → Prop} (ho : Own n0 sz H v n cs) (hj : j < cs.length) (h1 : one x = true) (hv : vcells x = [x])
    (hq : ∀ H', Own n0 sz H' v n (cs.set j x) → Stp v H v H' → Q undef H') : Got (pSt 1 (ptrAt v j) x H) Q := by
  obtain ⟨h2, h3⟩ := ho
  obtain ⟨B, o, c, blk, rfl, g1, g2⟩ := h2.cell j _ (List.getElem?_eq_getElem hj)
  obtain ⟨hn0, blk', hb', hro⟩ := h3 B o n c rfl
  rw [g1] at hb'; cases hb'
  have hlt : o + j < blk.cells.length := (List.getElem?_eq_some_iff.1 g2).1
  unfold pSt ptrAt
  simp only [g1, Option.bind_some, hv, List.length_singleton, List.all_cons, List.all_nil, h1, hro]
  rw [ble_of (by omega : o + j + 1 ≤ blk.cells.length)]
  refine ⟨_, _, rfl, ?_⟩
  have hsp : splice blk.cells (o + j) [x] = blk.cells.set (o + j) x := by
    unfold splice
    rw [List.set_eq_take_append_cons_drop, if_pos hlt]
    simp
  refine hq _ ⟨?_, fun B' o' l' c' e => ?_⟩ ⟨Nat.le_refl _, fun b hb hnb => ?_, fun b h => .inl h⟩
  · rcases h2 with ⟨e, _⟩ | ⟨B', o', e, _, _, _, hcs⟩ | ⟨B', o', c', blk', e, k1, k2, k3, k4, k5, k6⟩
    · cases e
    · rw [hcs] at hj; simp at hj
    · cases e
      rw [g1] at k2; cases k2
      refine .inr (.inr ⟨B, o, c, ⟨splice blk.cells (o + j) [x], blk.sz, blk.opn, false⟩, rfl, k1, by rw [AH.get_set, if_pos rfl], k3, k4, ?_, ?_⟩)
      · show o + c * sz ≤ (splice blk.cells (o + j) [x]).length
        rw [hsp]; simpa using k5
      · show ((splice blk.cells (o + j) [x]).drop o).take (n * sz) = _
        rw [hsp, ← k6, List.drop_set, if_neg (by omega), List.take_set, show o + j - o = j by omega]
  · cases e
    exact ⟨hn0, ⟨splice blk.cells (o + j) [x], blk.sz, blk.opn, false⟩, by rw [AH.get_set, if_pos rfl], rfl⟩
  · rw [AH.get_set, if_neg ?_]
    intro e; subst e
    exact hnb ⟨_, _, _, rfl⟩

/-- A SLICE OF A SLICE, with its room to the end -/
theorem xslc_ok {lo hi : Option Value} {i h : Nat} (hs : Sl H sz s n cs) (hl : natOf 0 lo = some i) (hh : natOf n hi = some h) (h1 : i ≤ h) (h2 : h ≤ n) :
    ∃ s', xslc H sz s lo hi none = some s' ∧ Sl H sz s' (h - i) ((cs.drop (i * sz)).take ((h - i) * sz)) ∧ (∀ b, inB s' b ↔ inB s b) ∧ (∀ n0, Own n0 sz H s n cs → Own n0 sz H s' (h - i) ((cs.drop (i * sz)).take ((h - i) * sz))) := by
  rcases hs with ⟨rfl, rfl, rfl⟩ | ⟨B, o, rfl, hlt, hg, rfl, rfl⟩ | ⟨B, o, c, blk, rfl, g1, g2, g3, g4, g5, g6⟩
  · have h0 : h = 0 := by omega
    have i0 : i = 0 := by omega
    subst h0 i0
    refine ⟨.slice none 0 0, ?_, ?_, fun b => Iff.rfl, fun n0 ho => by simpa using ho⟩
    · unfold xslc
      simp only [hl, hh, show natOf 0 (none : Option Value) = some 0 from rfl]
    · exact .inl ⟨rfl, rfl, by simp⟩
  · have h0 : h = 0 := by omega
    have i0 : i = 0 := by omega
    subst h0 i0
    refine ⟨.slice (some ⟨B, o, none⟩) 0 0, ?_, ?_, fun b => Iff.rfl, fun n0 ho => by simpa using ho⟩
    · unfold xslc
      simp only [hg, hl, hh, isSomeV]
      rfl
    · exact .inr (.inl ⟨B, o, rfl, hlt, hg, rfl, by simp⟩)
  · have hsl : Sl H sz (.slice (some ⟨B, o + i * sz, none⟩) (h - i) (c - i)) (h - i) ((cs.drop (i * sz)).take ((h - i) * sz)) := by
      refine .inr (.inr ⟨B, o + i * sz, c - i, blk, rfl, g1, g2, g3, by omega, ?_, ?_⟩)
      · have : i * sz + (c - i) * sz = c * sz := by rw [← Nat.add_mul]; congr 1; omega
        omega
      · rw [← g6, List.drop_take, List.take_take, List.drop_drop]
        congr 1
        have : i * sz + (h - i) * sz ≤ n * sz := by rw [← Nat.add_mul]; exact Nat.mul_le_mul_right _ (by omega)
        omega
    refine ⟨_, ?_, hsl, fun b => ?_, fun n0 ho => ⟨hsl, fun B' o' l' c' e => ?_⟩⟩
    · unfold xslc
      simp only [g2, hl, hh, show natOf c (none : Option Value) = some c from rfl, isSomeV]
      rw [g3, show Nat.beq sz sz = true by simp, ble_of h1, ble_of (by omega : h ≤ c), ble_of (Nat.le_refl c)]
      rfl
    · constructor
      · rintro ⟨o', l', c', e⟩; cases e; exact ⟨_, _, _, rfl⟩
      · rintro ⟨o', l', c', e⟩; cases e; exact ⟨_, _, _, rfl⟩
    · cases e
      exact ho.2 B o n c rfl

/-! numbers -/
def OwnI (n0 : Nat) (H : AH) (v : Value) (l : List Int) : Prop := Own n0 1 H v l.length (l.map (.int .i64))

theorem ints_one (l : List Int) (k : IntKind) : (l.map (Value.int k)).all one = true := by
  refine List.all_eq_true.2 fun z hz => ?_
  simp only [List.mem_map] at hz
  obtain ⟨b, _, rfl⟩ := hz
  rfl

theorem OwnI.nil (n0 : Nat) (H : AH) : OwnI n0 H (.slice none 0 0) [] := Own.nil n0 1 H

theorem ints_idx {l : List Int} (h : Ints H s l) (i : Int) (k : Nat) (hi : i = (k : Int)) (hk : k < l.length) : pIdx 1 s (.int .i64 i) H = some (ptrAt s k, H) := pIdx_one h .i64 i k hi hk
theorem ints_ld {l : List Int} (h : Ints H s l) (k : Nat) (a : Int) (ha : l[k]? = some a) : pLd none (ptrAt s k) H = some (.int .i64 a, H) := pLd_one h k _ (by simp [ha])
end Go.Det

set_option linter.unusedSimpArgs false
set_option linter.unusedVariables false
namespace Go.Det
variable {P : Program} {T : XTab}

/-! ### frames, for simp -/
theorem qb_r (k i : Nat) (v : Value) (r : Fr) : Fr.get ((k, v) :: r) i = if k = i then some v else Fr.get r i := by
  simp only [Fr.get, Tr.beq_eq]
  by_cases h : k = i <;> simp [h]
theorem qb_s (d : Nat) (v : Value) : Fr.put [] d v = [(d, v)] := rfl
theorem qb_t (k d : Nat) (u v : Value) (r : Fr) : Fr.put ((k, u) :: r) d v = if k = d then (d, v) :: r else if d < k then (d, v) :: (k, u) :: r else (k, u) :: Fr.put r d v := by
  simp only [Fr.put, Tr.beq_eq]
  by_cases h : k = d
  · simp [h]
  · simp only [h, decide_false, cond_false, if_false]
    by_cases h2 : d < k
    · rw [blt_of h2]; simp [h2]
    · have : Nat.blt d k = false := by cases h3 : Nat.blt d k with
        | false => rfl
        | true => exact absurd (natlt h3) h2
      rw [this]; simp [h2]
theorem qb_u (fr : Fr) (d : Nat) (v : Value) : Fr.put? fr (some d) v = Fr.put fr d v := rfl
theorem qb_v (fr : Fr) (v : Value) : Fr.put? fr none v = fr := rfl
theorem qb_w (ks : List Nat) : Fr.keep [] ks = [] := rfl
theorem qb_y (i : Nat) : Fr.has [] i = false := rfl
theorem qb_z (k i : Nat) (ks : List Nat) : Fr.has (k :: ks) i = if k = i then true else Fr.has ks i := by
  simp only [Fr.has, Tr.beq_eq]
  by_cases h : k = i <;> simp [h]
theorem qb_x (k : Nat) (v : Value) (r : Fr) (ks : List Nat) : Fr.keep ((k, v) :: r) ks = if Fr.has ks k = true then (k, v) :: Fr.keep r ks else Fr.keep r ks := by
  simp only [Fr.keep]
  cases Fr.has ks k <;> simp

/-! ### regions whose order is drawn, where no read must be checked again -/
def Dops (P : Program) (T : XTab) : List XDop → Fr → AH → (Fr → AH → Prop) → Prop
  | [], fr, H, Q => Q fr H
  | d :: ds, fr, H, Q => Got (xval P (xc P T) d.x (fr.keep d.rd) H) fun v H' => Dops P T ds (fr.put? d.x.dst v) H' Q

theorem q_S (fr : Fr) (H : AH) (Q : Fr → AH → Prop) : Dops P T [] fr H Q ↔ Q fr H := Iff.rfl
/-! ### operations without memory -/
variable {fr : Fr} {H : AH}

theorem flat_eq {op : Op} {t : TypeId} {v : Value} (ha : op.operands.all (evFlat fr) = true) (hr : pureRun P (execOp (fun x => (ev fr x).getD undef) (flatOper op t)) = some (.value v)) (hv : flatD 4 v = true) :
    xop P fr H (.flat op t) = some (v, H) := by
  simp only [xop, xflat, ha, hr, hv, cond_true]

theorem flat_min (x y : Operand) (t : TypeId) (ts : Array TypeId) (k : IntKind) (a b : Int) (hx : ev fr x = some (.int k a)) (hy : ev fr y = some (.int k b)) :
    xop P fr H (.flat (.call (.mk (.builtin .min) #[x, y] ts)) t) = some (.int k (if b < a then b else a), H) := by
  refine flat_eq ?_ ?_ rfl
  · simp [Op.operands, Call.operands, evFlat, hx, hy, flatD]
  · simp [execOp, flatOper, resolve, hx, hy, Deferred.ofValue, invoke, builtin, Builtin.min_, Builtin.min2, pureRun]; rfl

theorem flat_max (x y : Operand) (t : TypeId) (ts : Array TypeId) (k : IntKind) (a b : Int) (hx : ev fr x = some (.int k a)) (hy : ev fr y = some (.int k b)) :
    xop P fr H (.flat (.call (.mk (.builtin .max) #[x, y] ts)) t) = some (.int k (if a < b then b else a), H) := by
  refine flat_eq ?_ ?_ rfl
  · simp [Op.operands, Call.operands, evFlat, hx, hy, flatD]
  · simp [execOp, flatOper, resolve, hx, hy, Deferred.ofValue, invoke, builtin, Builtin.max_, Builtin.max2, pureRun]; rfl

theorem flat_not (x : Operand) (t t' : TypeId) (a : Bool) (hx : ev fr x = some (.bool a)) : xop P fr H (.flat (.unOp .not t x) t') = some (.bool (!a), H) := by
  refine flat_eq ?_ ?_ rfl
  · simp [Op.operands, evFlat, hx, flatD]
  · simp [execOp, flatOper, hx, pureRun]; rfl

theorem pureRun_bind {α β : Type} (f : α → Sem β) : ∀ (s : Sem α), pureRun P (s >>= f) = (pureRun P s).bind fun a => pureRun P (f a)
  | .pure a => rfl
  | .program k => pureRun_bind f (k P)
  | .mark _ k => pureRun_bind f k
  | .load .. | .store .. | .new .. | .shape .. | .freeze .. | .frozen .. | .getObj .. | .setObj .. | .choose .. | .sys .. | .halt _ => rfl
theorem pureRun_pure {α : Type} (a : α) : pureRun P (pure a) = some a := rfl
theorem pureRun_map {α β : Type} (f : α → β) (s : Sem α) : pureRun P (f <$> s) = (pureRun P s).map f := by
  rw [← bind_pure_comp, pureRun_bind]
  cases pureRun P s <;> rfl
theorem pureRun_underlying {t : TypeId} {d : TypeDesc} (hu : P.underlying t = some d) : pureRun P (underlying t) = some d := by
  unfold underlying
  rw [pureRun_bind]
  show (some P).bind _ = _
  simp [hu, pureRun_pure]

theorem flat_neg (x : Operand) (t t' : TypeId) (k : IntKind) (a : Int) (hx : ev fr x = some (.int k a)) : xop P fr H (.flat (.unOp .neg t x) t') = some (.int k (k.wrap (-a)), H) := by
  refine flat_eq ?_ ?_ rfl
  · simp [Op.operands, evFlat, hx, flatD]
  · simp [execOp, flatOper, hx, pureRun_map, Op.unary, Op.intArith, pureRun_pure]

/-! ### values of operations, for simp -/
theorem q_V (dd : Option Nat) (x : Operand) : xval P (xc P T) ⟨dd, (.mov x), none⟩ fr H = (ev fr x).map fun v => (v, H) := (xval_op dd _ fr H rfl).trans (e_mov x)
theorem qb_o (dd : Option Nat) (c a b : Operand) : xval P (xc P T) ⟨dd, (.pick c a b), none⟩ fr H = (ev fr c).bind fun c => match c with
    | .bool true => (ev fr a).map fun v => (v, H)
    | .bool false => (ev fr b).map fun v => (v, H)
    | _ => none := (xval_op dd _ fr H rfl).trans (e_pick c a b)
theorem qb_i (dd : Option Nat) (t : TypeId) (sz : Nat) (zs : List Value) : xval P (xc P T) ⟨dd, (.new t sz zs), none⟩ fr H = some (.pointer (some ⟨H.n, 0, none⟩), H.push ⟨zs, sz, false, false⟩) := (xval_op dd _ fr H rfl).trans (e_new t sz zs)
theorem qb_j (dd : Option Nat) (t : TypeId) (sz : Nat) (x : Operand) : xval P (xc P T) ⟨dd, (.box t sz x), none⟩ fr H = (ev fr x).map fun v => (.pointer (some ⟨H.n, 0, none⟩), H.push ⟨vcells v, sz, false, false⟩) := (xval_op dd _ fr H rfl).trans (e_box t sz x)
theorem v_ld (dd : Option Nat) (n : Option Nat) (a : Operand) : xval P (xc P T) ⟨dd, (.ld n a), none⟩ fr H = (ev fr a).bind fun v => pLd n v H := (xval_op dd _ fr H rfl).trans (e_ld n a)
theorem v_st (dd : Option Nat) (n : Nat) (a x : Operand) : xval P (xc P T) ⟨dd, (.st n a x), none⟩ fr H = (ev fr a).bind fun v => (ev fr x).bind fun u => pSt n v u H := (xval_op dd _ fr H rfl).trans (e_st n a x)
theorem qb_n (dd : Option Nat) (a : Operand) : xval P (xc P T) ⟨dd, (.nilck a), none⟩ fr H = (ev fr a).bind fun v => pNil v H := (xval_op dd _ fr H rfl).trans (e_nilck a)
theorem q_W (dd : Option Nat) (op : BinOp) (x y : Operand) : xval P (xc P T) ⟨dd, (.bin op x y), none⟩ fr H = (ev fr x).bind fun a => (ev fr y).bind fun b => (xbin op a b).map fun v => (v, H) := (xval_op dd _ fr H rfl).trans (e_bin op x y)
theorem qb_m (dd : Option Nat) (neg : Bool) (c : Value) (x : Operand) : xval P (xc P T) ⟨dd, (.isnil neg c x), none⟩ fr H = (ev fr x).bind fun a => (xisnil c a).map fun b => (.bool (if neg then !b else b), H) := (xval_op dd _ fr H rfl).trans (e_isnil neg c x)
theorem qb_f (dd : Option Nat) (k : IntKind) (a : Operand) : xval P (xc P T) ⟨dd, (.conv k a), none⟩ fr H = (ev fr a).bind fun v => pConv k v H := (xval_op dd _ fr H rfl).trans (e_conv k a)
theorem qb_g (dd : Option Nat) (off : Nat) (n : Option Nat) (a : Operand) : xval P (xc P T) ⟨dd, (.fld off n a), none⟩ fr H = (ev fr a).bind fun v => pFld off n v H := (xval_op dd _ fr H rfl).trans (e_fld off n a)
theorem qb_h (dd : Option Nat) (off : Nat) (a : Operand) : xval P (xc P T) ⟨dd, (.fldA off a), none⟩ fr H = (ev fr a).bind fun v => pFldA off v H := (xval_op dd _ fr H rfl).trans (e_fldA off a)
theorem q_Z (dd : Option Nat) (sz : Nat) (x i : Operand) : xval P (xc P T) ⟨dd, (.idxA sz x i), none⟩ fr H = (ev fr x).bind fun a => (ev fr i).bind fun b => pIdx sz a b H := (xval_op dd _ fr H rfl).trans (e_idxA sz x i)
theorem qb_k (dd : Option Nat) (e : TypeId) (sz bytes : Nat) (zs : List Value) (l c : Operand) : xval P (xc P T) ⟨dd, (.mks e sz bytes zs l c), none⟩ fr H = (ev fr l).bind fun l => (ev fr c).bind fun c => pMks sz bytes zs l c H := (xval_op dd _ fr H rfl).trans (e_mks e sz bytes zs l c)
theorem qb_e (dd : Option Nat) (sz : Nat) (x : Operand) (lo hi mx : Option Operand) : xval P (xc P T) ⟨dd, (.slc sz x lo hi mx), none⟩ fr H = (ev fr x).bind fun v => (optEv fr lo).bind fun a => (optEv fr hi).bind fun b => (optEv fr mx).bind fun c =>
    bif isSome' mx && !(isSome' hi) then none else (xslc H sz v a b c).map fun r => (r, H) := (xval_op dd _ fr H rfl).trans (e_slc sz x lo hi mx)
theorem q_X (dd : Option Nat) (a : Operand) : xval P (xc P T) ⟨dd, (.len a), none⟩ fr H = (ev fr a).bind fun v => pLen v H := (xval_op dd _ fr H rfl).trans (e_len a)
theorem qb_a (dd : Option Nat) (e : TypeId) (sz bytes : Nat) (zs : List Value) (x y : Operand) : xval P (xc P T) ⟨dd, (.app e sz bytes zs x y), none⟩ fr H = (ev fr x).bind fun a => (ev fr y).bind fun b => xapp H sz bytes a b := (xval_op dd _ fr H rfl).trans (e_app e sz bytes zs x y)
theorem qb_b (dd : Option Nat) (e : TypeId) (sz bytes : Nat) (zs : List Value) (x y : Operand) : xval P (xc P T) ⟨dd, (.appN e sz bytes zs x y), none⟩ fr H = (ev fr x).bind fun a => (ev fr y).bind fun b => xappN H sz bytes zs a b := (xval_op dd _ fr H rfl).trans (e_appN e sz bytes zs x y)
theorem qb_c (dd : Option Nat) (x : Operand) : xval P (xc P T) ⟨dd, (.cvs x), none⟩ fr H = (ev fr x).bind fun a => pCvs a H := (xval_op dd _ fr H rfl).trans (e_cvs x)
theorem qb_l (dd : Option Nat) (sz : Nat) (x y : Operand) : xval P (xc P T) ⟨dd, (.copy sz x y), none⟩ fr H = (ev fr x).bind fun a => (ev fr y).bind fun b => xcopy H sz a b := (xval_op dd _ fr H rfl).trans (e_copy sz x y)
theorem q_Y (dd : Option Nat) (x : Operand) (i : Nat) : xval P (xc P T) ⟨dd, (.ext x i), none⟩ fr H = (ev fr x).bind fun v => pExt i v H := (xval_op dd _ fr H rfl).trans (e_ext x i)
theorem q_p (d : Option Nat) (op : XOp) (xs : List XOper) (fr : Fr) (H : AH) (Q : Fr → AH → Prop) :
    Ops P T (⟨d, op, none⟩ :: xs) fr H Q ↔ Got (xval P (xc P T) ⟨d, op, none⟩ fr H) fun v H' => Ops P T xs (fr.put? d v) H' Q := ops_val ..
theorem q_T (d : Option Nat) (op : XOp) (rd : List Nat) (kd : Nat) (st : List Nat) (ds : List XDop) (fr : Fr) (H : AH) (Q : Fr → AH → Prop) :
    Dops P T (.mk ⟨d, op, none⟩ rd kd st :: ds) fr H Q ↔ Got (xval P (xc P T) ⟨d, op, none⟩ (fr.keep rd) H) fun v H' => Dops P T ds (fr.put? d v) H' Q := Iff.rfl
theorem qb_B (fr : Fr) (H : AH) : xress fr H [] = some [] := rfl
theorem qb_C (fr : Fr) (H : AH) (t : Nat) (r : List XRes) : xress fr H (.tmp t :: r) = (fr.get t).bind fun v => (xress fr H r).map fun vs => v :: vs := by
  simp only [xress, xres]
  rcases fr.get t with _ | v
  · rfl
  rcases xress fr H r with _ | vs <;> rfl
def resV : List Value → Value
  | [v] => v
  | vs => .tuple vs.toArray
theorem qb_A (fr : Fr) (H : AH) (r : List XRes) : xresult fr H r = (xress fr H r).map resV := by
  unfold xresult
  rcases xress fr H r with _ | vs
  · rfl
  rcases vs with _ | ⟨v, vs⟩
  · rfl
  rcases vs with _ | ⟨u, vs⟩ <;> rfl
def pBs1 (v : Value) (H : AH) : Option (Value × AH) :=
  match v with
  | .int k a => some (.slice (some ⟨H.n, 0, none⟩) 1 1, H.push ⟨[.int k a], 1, false, false⟩)
  | .string a => some (.slice (some ⟨H.n, 0, none⟩) 1 1, H.push ⟨[.string a], 1, false, false⟩)
  | .bool a => some (.slice (some ⟨H.n, 0, none⟩) 1 1, H.push ⟨[.bool a], 1, false, false⟩)
  | .slice a l c => some (.slice (some ⟨H.n, 0, none⟩) 1 1, H.push ⟨[.slice a l c], 1, false, false⟩)
  | v => bif Nat.beq (vcells v).length 1 && (vcells v).all one then some (.slice (some ⟨H.n, 0, none⟩) 1 1, H.push ⟨vcells v, 1, false, false⟩) else none
/-- a slice of one thing -/
theorem qb_d (dd : Option Nat) (e : TypeId) (z : Value) (x : Operand) : xval P (xc P T) ⟨dd, .bslice e 1 1 [z] [(0, x)], none⟩ fr H = (ev fr x).bind fun v => pBs1 v H := by
  rw [xval_op dd _ fr H rfl, e_bslice]
  simp only [List.map_cons, List.map_nil, rep, List.append_nil, xfill]
  rcases ev fr x with _ | v
  · rfl
  simp only [Option.bind_some]
  have key : ∀ vs : List Value, (bif Nat.beq vs.length 1 && Nat.ble (0 * 1 + 1) [z].length && vs.all one then some (splice [z] (0 * 1) vs) else none) = (bif Nat.beq vs.length 1 && vs.all one then some vs else none) := by
    intro vs
    have e1 : Nat.ble (0 * 1 + 1) [z].length = true := rfl
    rw [e1, Bool.and_true]
    cases hc : Nat.beq vs.length 1 && vs.all one
    · rfl
    · simp only [cond_true]
      have hl := Nat.eq_of_beq_eq_true (Bool.and_eq_true_iff.1 hc).1
      have : splice [z] (0 * 1) vs = vs := by
        unfold splice
        rw [Nat.zero_mul, List.take_zero, Nat.zero_add, hl]; simp
      rw [this]
  rw [key]
  cases v <;> try rfl
  · rename_i cs
    simp only [pBs1]
    cases Nat.beq (vcells (.agg cs)).length 1 && (vcells (.agg cs)).all one <;> rfl
theorem qb_p (fr : Fr) : evs fr [] = some [] := rfl
theorem qb_q (fr : Fr) (x : Operand) (xs : List Operand) : evs fr (x :: xs) = (ev fr x).bind fun v => (evs fr xs).map fun vs => v :: vs := by
  simp only [evs]
  rcases ev fr x with _ | v
  · rfl
  rcases evs fr xs with _ | vs <;> rfl

/-- what a guard says -/
def WantQ (o : Option Value) (want : Bool) (A B : Prop) : Prop :=
  match o with
  | some (.bool b) => (b = want → A) ∧ (b = !want → B)
  | some (.tuple xs) => xs.size = 0 ∧ B
  | _ => False
theorem wantQ_bool (b want : Bool) (A B : Prop) : WantQ (some (.bool b)) want A B ↔ (b = want → A) ∧ (b = !want → B) := Iff.rfl
theorem wantQ_undef (want : Bool) (A B : Prop) : WantQ (some undef) want A B ↔ B := by
  show ((#[] : Array Value).size = 0 ∧ B) ↔ B
  simp
theorem got_want {d : Option Nat} {op : XOp} {k : Nat} {want : Bool} {fr : Fr} {H : AH} {Q : Value → AH → Prop} (h : WantQ (fr.get k) want (Got (xval P (xc P T) ⟨d, op, none⟩ fr H) Q) (Q undef H)) :
    Got (xval P (xc P T) ⟨d, op, some (k, want)⟩ fr H) Q := by
  unfold WantQ at h
  split at h
  · rename_i b hb
    have hx : xval P (xc P T) ⟨d, op, some (k, want)⟩ fr H = if b = want then xval P (xc P T) ⟨d, op, none⟩ fr H else some (undef, H) := by
      unfold xval
      simp only [xwanted, hb]
      cases b <;> cases want <;> simp
    rw [hx]
    cases b <;> cases want <;> simp_all [q_q]
  · rename_i xs hb
    have hx : xval P (xc P T) ⟨d, op, some (k, want)⟩ fr H = some (undef, H) := by
      unfold xval
      simp only [xwanted, hb, h.1]
      rfl
    rw [hx, q_q]; exact h.2
  · exact h.elim
theorem got_unwant {d : Option Nat} {op : XOp} {k : Nat} {want : Bool} {fr : Fr} {H : AH} {Q : Value → AH → Prop} (h : Got (xval P (xc P T) ⟨d, op, some (k, want)⟩ fr H) Q) :
    WantQ (fr.get k) want (Got (xval P (xc P T) ⟨d, op, none⟩ fr H) Q) (Q undef H) := by
  obtain ⟨v, H', h, q⟩ := h
  unfold xval at h
  unfold WantQ
  cases hg : fr.get k with
  | none => simp [xwanted, hg] at h
  | some u =>
    cases u <;> simp only [xwanted, hg] at h ⊢ <;> try (simp at h; done)
    · rename_i b
      cases b <;> cases want <;> simp_all <;> first
        | exact ⟨v, H', by unfold xval; simpa [xwanted] using h, q⟩
        | (obtain ⟨rfl, rfl⟩ := h; exact q)
    · rename_i xs
      cases hz : Nat.beq xs.size 0
      · simp [hz] at h
      · simp only [hz, cond_true, Option.some.injEq, Prod.mk.injEq] at h
        obtain ⟨rfl, rfl⟩ := h
        exact ⟨Nat.eq_of_beq_eq_true hz, q⟩
theorem ops_want (d : Option Nat) (op : XOp) (k : Nat) (want : Bool) (xs : List XOper) (fr : Fr) (H : AH) (Q : Fr → AH → Prop) :
    Ops P T (⟨d, op, some (k, want)⟩ :: xs) fr H Q ↔ WantQ (fr.get k) want (Ops P T (⟨d, op, none⟩ :: xs) fr H Q) (Ops P T xs (fr.put? d undef) H Q) := by
  rw [ops_val, ops_val]
  exact ⟨got_unwant, got_want⟩
theorem dops_want (d : Option Nat) (op : XOp) (k : Nat) (want : Bool) (rd : List Nat) (kd : Nat) (st : List Nat) (ds : List XDop) (fr : Fr) (H : AH) (Q : Fr → AH → Prop) :
    Dops P T (.mk ⟨d, op, some (k, want)⟩ rd kd st :: ds) fr H Q ↔ WantQ ((fr.keep rd).get k) want (Dops P T (.mk ⟨d, op, none⟩ rd kd st :: ds) fr H Q) (Dops P T ds (fr.put? d undef) H Q) :=
  ⟨got_unwant, got_want⟩

/-! decided guards and branches -/
theorem q_r {d : Option Nat} {op : XOp} {k : Nat} {xs : List XOper} {fr : Fr} {H : AH} {Q : Fr → AH → Prop} (h : fr.get k = some (.bool true)) : Ops P T (⟨d, op, some (k, true)⟩ :: xs) fr H Q ↔ Ops P T (⟨d, op, none⟩ :: xs) fr H Q := by
  rw [ops_want, h, wantQ_bool]; simp
theorem q_s {d : Option Nat} {op : XOp} {k : Nat} {xs : List XOper} {fr : Fr} {H : AH} {Q : Fr → AH → Prop} (h : fr.get k = some (.bool false)) : Ops P T (⟨d, op, some (k, true)⟩ :: xs) fr H Q ↔ Ops P T xs (fr.put? d undef) H Q := by
  rw [ops_want, h, wantQ_bool]; simp
theorem q_t {d : Option Nat} {op : XOp} {k : Nat} {xs : List XOper} {fr : Fr} {H : AH} {Q : Fr → AH → Prop} (h : fr.get k = some (.bool false)) : Ops P T (⟨d, op, some (k, false)⟩ :: xs) fr H Q ↔ Ops P T (⟨d, op, none⟩ :: xs) fr H Q := by
  rw [ops_want, h, wantQ_bool]; simp
theorem q_u {d : Option Nat} {op : XOp} {k : Nat} {xs : List XOper} {fr : Fr} {H : AH} {Q : Fr → AH → Prop} (h : fr.get k = some (.bool true)) : Ops P T (⟨d, op, some (k, false)⟩ :: xs) fr H Q ↔ Ops P T xs (fr.put? d undef) H Q := by
  rw [ops_want, h, wantQ_bool]; simp
theorem q_v {d : Option Nat} {op : XOp} {k : Nat} {want : Bool} {xs : List XOper} {fr : Fr} {H : AH} {Q : Fr → AH → Prop} (h : fr.get k = some undef) : Ops P T (⟨d, op, some (k, want)⟩ :: xs) fr H Q ↔ Ops P T xs (fr.put? d undef) H Q := by
  rw [ops_want, h, wantQ_undef]
theorem q_w {d : Option Nat} {op : XOp} {k : Nat} {rd : List Nat} {kd : Nat} {st : List Nat} {xs : List XDop} {fr : Fr} {H : AH} {Q : Fr → AH → Prop} (h : (fr.keep rd).get k = some (.bool true)) : Dops P T (.mk ⟨d, op, some (k, true)⟩ rd kd st :: xs) fr H Q ↔ Dops P T (.mk ⟨d, op, none⟩ rd kd st :: xs) fr H Q := by
  rw [dops_want, h, wantQ_bool]; simp
theorem q_x {d : Option Nat} {op : XOp} {k : Nat} {rd : List Nat} {kd : Nat} {st : List Nat} {xs : List XDop} {fr : Fr} {H : AH} {Q : Fr → AH → Prop} (h : (fr.keep rd).get k = some (.bool false)) : Dops P T (.mk ⟨d, op, some (k, true)⟩ rd kd st :: xs) fr H Q ↔ Dops P T xs (fr.put? d undef) H Q := by
  rw [dops_want, h, wantQ_bool]; simp
theorem q_y {d : Option Nat} {op : XOp} {k : Nat} {rd : List Nat} {kd : Nat} {st : List Nat} {xs : List XDop} {fr : Fr} {H : AH} {Q : Fr → AH → Prop} (h : (fr.keep rd).get k = some (.bool false)) : Dops P T (.mk ⟨d, op, some (k, false)⟩ rd kd st :: xs) fr H Q ↔ Dops P T (.mk ⟨d, op, none⟩ rd kd st :: xs) fr H Q := by
  rw [dops_want, h, wantQ_bool]; simp
theorem q_z {d : Option Nat} {op : XOp} {k : Nat} {rd : List Nat} {kd : Nat} {st : List Nat} {xs : List XDop} {fr : Fr} {H : AH} {Q : Fr → AH → Prop} (h : (fr.keep rd).get k = some (.bool true)) : Dops P T (.mk ⟨d, op, some (k, false)⟩ rd kd st :: xs) fr H Q ↔ Dops P T xs (fr.put? d undef) H Q := by
  rw [dops_want, h, wantQ_bool]; simp
theorem q_A {d : Option Nat} {op : XOp} {k : Nat} {want : Bool} {rd : List Nat} {kd : Nat} {st : List Nat} {xs : List XDop} {fr : Fr} {H : AH} {Q : Fr → AH → Prop} (h : (fr.keep rd).get k = some undef) : Dops P T (.mk ⟨d, op, some (k, want)⟩ rd kd st :: xs) fr H Q ↔ Dops P T xs (fr.put? d undef) H Q := by
  rw [dops_want, h, wantQ_undef]
theorem q_B {c : Operand} {a b : XCode} {fr : Fr} {H : AH} {Q : XExit → Fr → AH → Prop} (h : ev fr c = some (.bool true)) : Run P T (.cond c a b) fr H Q ↔ Run P T a fr H Q := by
  rw [qb_V, h, qb_W]; simp
theorem q_C {c : Operand} {a b : XCode} {fr : Fr} {H : AH} {Q : XExit → Fr → AH → Prop} (h : ev fr c = some (.bool false)) : Run P T (.cond c a b) fr H Q ↔ Run P T b fr H Q := by
  rw [qb_V, h, qb_W]; simp

def alt2 (o1 o2 : Option Value) (f : IntKind → Int → Int → Option (Value × AH)) (d : Option (Value × AH)) : Option (Value × AH) :=
  match o1, o2 with
  | some (.int k a), some (.int k' b) => if k = k' then f k a b else d
  | _, _ => d
theorem q_D (k : IntKind) (a b : Int) (f : IntKind → Int → Int → Option (Value × AH)) (d : Option (Value × AH)) : alt2 (some (.int k a)) (some (.int k b)) f d = f k a b := by simp [alt2]
def altB (o1 : Option Value) (f : Bool → Option (Value × AH)) (d : Option (Value × AH)) : Option (Value × AH) :=
  match o1 with
  | some (.bool a) => f a
  | _ => d
theorem q_E (a : Bool) (f : Bool → Option (Value × AH)) (d : Option (Value × AH)) : altB (some (.bool a)) f d = f a := rfl
def altI (o1 : Option Value) (f : IntKind → Int → Option (Value × AH)) (d : Option (Value × AH)) : Option (Value × AH) :=
  match o1 with
  | some (.int k a) => f k a
  | _ => d
theorem q_F (k : IntKind) (a : Int) (f : IntKind → Int → Option (Value × AH)) (d : Option (Value × AH)) : altI (some (.int k a)) f d = f k a := rfl
def altBB (o1 o2 : Option Value) (f : Bool → Bool → Option (Value × AH)) (d : Option (Value × AH)) : Option (Value × AH) :=
  match o1, o2 with
  | some (.bool a), some (.bool b) => f a b
  | _, _ => d
theorem q_G (a b : Bool) (f : Bool → Bool → Option (Value × AH)) (d : Option (Value × AH)) : altBB (some (.bool a)) (some (.bool b)) f d = f a b := rfl

theorem q_H (dd : Option Nat) (x y : Operand) (t : TypeId) (ts : Array TypeId) : xval P (xc P T) ⟨dd, .flat (.call (.mk (.builtin .min) #[x, y] ts)) t, none⟩ fr H =
    alt2 (ev fr x) (ev fr y) (fun k a b => some (.int k (if b < a then b else a), H)) (xop P fr H (.flat (.call (.mk (.builtin .min) #[x, y] ts)) t)) := by
  rw [xval_op dd _ fr H rfl]
  unfold alt2
  split
  · rename_i k a k' b h1 h2
    split
    · rename_i h; subst h; exact flat_min x y t ts k a b h1 h2
    · rfl
  · rfl
theorem q_I (dd : Option Nat) (x y : Operand) (t : TypeId) (ts : Array TypeId) : xval P (xc P T) ⟨dd, .flat (.call (.mk (.builtin .max) #[x, y] ts)) t, none⟩ fr H =
    alt2 (ev fr x) (ev fr y) (fun k a b => some (.int k (if a < b then b else a), H)) (xop P fr H (.flat (.call (.mk (.builtin .max) #[x, y] ts)) t)) := by
  rw [xval_op dd _ fr H rfl]
  unfold alt2
  split
  · rename_i k a k' b h1 h2
    split
    · rename_i h; subst h; exact flat_max x y t ts k a b h1 h2
    · rfl
  · rfl
theorem q_J (dd : Option Nat) (x : Operand) (t t' : TypeId) : xval P (xc P T) ⟨dd, .flat (.unOp .not t x) t', none⟩ fr H = altB (ev fr x) (fun a => some (.bool (!a), H)) (xop P fr H (.flat (.unOp .not t x) t')) := by
  rw [xval_op dd _ fr H rfl]
  unfold altB
  split
  · rename_i a h; exact flat_not x t t' a h
  · rfl
theorem q_K (dd : Option Nat) (x : Operand) (t t' : TypeId) : xval P (xc P T) ⟨dd, .flat (.unOp .neg t x) t', none⟩ fr H = altI (ev fr x) (fun k a => some (.int k (k.wrap (-a)), H)) (xop P fr H (.flat (.unOp .neg t x) t')) := by
  rw [xval_op dd _ fr H rfl]
  unfold altI
  split
  · rename_i k a h; exact flat_neg x t t' k a h
  · rfl
theorem q_L (fr : Fr) : optEv fr none = some none := rfl
theorem q_M (fr : Fr) (x : Operand) : optEv fr (some x) = (ev fr x).map some := by
  simp only [optEv]
  rcases ev fr x with _ | v <;> rfl
theorem q_N : isSome' none = false := rfl
theorem q_O (x : Operand) : isSome' (some x) = true := rfl
theorem q_P (a : Value) (l : List Value) (H : AH) : pExt 0 (.tuple (a :: l).toArray) H = some (a, H) := rfl
theorem q_Q (a b : Value) (l : List Value) (H : AH) : pExt 1 (.tuple (a :: b :: l).toArray) H = some (b, H) := rfl
theorem q_R (a b c : Value) (l : List Value) (H : AH) : pExt 2 (.tuple (a :: b :: c :: l).toArray) H = some (c, H) := rfl
/-! ### numbers -/
theorem wrI (n : Int) (h0 : -9223372036854775808 ≤ n) (h1 : n < 9223372036854775808) : IntKind.i64.wrap n = n := by
  show (if (true && decide (n % (2 ^ 64 : Int) ≥ (2 ^ 63 : Int))) = true then n % (2 ^ 64 : Int) - (2 ^ 64 : Int) else n % (2 ^ 64 : Int)) = n
  rw [show (2 : Int) ^ 64 = 18446744073709551616 from rfl, show (2 : Int) ^ 63 = 9223372036854775808 from rfl]
  simp only [Bool.true_and, decide_eq_true_eq]
  split <;> omega

theorem Ints.keep {n0 : Nat} {H H' : AH} {s : Value} {l : List Int} (hs : Ints H s l) (hk : Keep n0 H H') (hb : ∀ b, inB s b → b < n0) : Ints H' s l := Sl.keep hk hs hb
theorem OwnI.ints {n0 : Nat} {H : AH} {v : Value} {l : List Int} (h : OwnI n0 H v l) : Ints H v l := h.1
theorem Ints.lt {H : AH} {s : Value} {l : List Int} (hs : Ints H s l) : ∀ b, inB s b → b < H.n := fun b hb => Sl.lt hs hb
theorem ints_len {H : AH} {s : Value} {l : List Int} (hs : Ints H s l) : pLen s H = some (.int .i64 (l.length : Int), H) := pLen_ok hs

end Go.Det

set_option linter.unusedSimpArgs false
set_option linter.unusedVariables false
namespace Go.Det

variable {P : Program} {T : XTab} {fr : Fr} {H : AH}
/-! ### bits -/
/-! the same, as simp meets them when `ibin` is unfolded -/
end Go.Det

set_option linter.unusedSimpArgs false
set_option linter.unusedVariables false
namespace Go.Det
/-! bits of bytes -/
end Go.Det

set_option linter.unusedSimpArgs false
set_option linter.unusedVariables false
namespace Go.Det
variable {P : Program} {T : XTab}
/-! ### drawn regions some of whose reads must be stable -/
def hsPut (kd : Nat) (p : Nat × AH) (hs : List (Nat × AH)) : List (Nat × AH) := bif Nat.ble 2 kd then p :: hs else hs
theorem hs0 (p : Nat × AH) (hs : List (Nat × AH)) : hsPut 0 p hs = hs := rfl
theorem hs1 (p : Nat × AH) (hs : List (Nat × AH)) : hsPut 1 p hs = hs := rfl
theorem hs2 (p : Nat × AH) (hs : List (Nat × AH)) : hsPut 2 p hs = p :: hs := rfl
theorem hs3 (p : Nat × AH) (hs : List (Nat × AH)) : hsPut 3 p hs = p :: hs := rfl
def addC (x : XOper) (rd : List Nat) (kd : Nat) (st : List Nat) (f : Fr) (v : Value) (cs : List (XDop × Fr × Value)) : List (XDop × Fr × Value) :=
  match st with | [] => cs | _ => (⟨x, rd, kd, st⟩, f, v) :: cs
theorem qb_G (x : XOper) (rd : List Nat) (kd : Nat) (f : Fr) (v : Value) (cs : List (XDop × Fr × Value)) : addC x rd kd [] f v cs = cs := rfl
theorem qb_H (x : XOper) (rd : List Nat) (kd a : Nat) (l : List Nat) (f : Fr) (v : Value) (cs : List (XDop × Fr × Value)) : addC x rd kd (a :: l) f v cs = (⟨x, rd, kd, a :: l⟩, f, v) :: cs := rfl
def StabAll (P : Program) (T : XTab) (hs : List (Nat × AH)) (cs : List (XDop × Fr × Value)) : Prop := cs.all (stabOk P (xc P T) hs) = true
def HAt (hs : List (Nat × AH)) (t : Nat) (K : AH → Prop) : Prop := ∃ H, heapAt hs t = some H ∧ K H
theorem qb_M (a t : Nat) (H : AH) (r : List (Nat × AH)) (K : AH → Prop) : HAt ((a, H) :: r) t K ↔ if a = t then K H else HAt r t K := by
  unfold HAt
  simp only [heapAt]
  by_cases h : a = t
  · subst h; simp
  · have : Nat.beq a t = false := by rw [Tr.beq_eq]; simp [h]
    simp [this, h]
def Stab1 (P : Program) (T : XTab) (hs : List (Nat × AH)) (x : XOper) (f : Fr) (v : Value) (st : List Nat) : Prop :=
  ∀ t ∈ st, HAt hs t fun H => Got (xval P (xc P T) x f H) fun u _ => veq v u = true
theorem qb_K (hs : List (Nat × AH)) (x : XOper) (f : Fr) (v : Value) : Stab1 P T hs x f v [] ↔ True := by simp [Stab1]
theorem qb_L (hs : List (Nat × AH)) (x : XOper) (f : Fr) (v : Value) (t : Nat) (st : List Nat) : Stab1 P T hs x f v (t :: st) ↔ (HAt hs t fun H => Got (xval P (xc P T) x f H) fun u _ => veq v u = true) ∧ Stab1 P T hs x f v st := by simp [Stab1]
theorem qb_I (hs : List (Nat × AH)) : StabAll P T hs [] ↔ True := by simp [StabAll]
theorem qb_J (hs : List (Nat × AH)) (x : XOper) (rd : List Nat) (kd : Nat) (st : List Nat) (f : Fr) (v : Value) (cs : List (XDop × Fr × Value)) :
    StabAll P T hs ((⟨x, rd, kd, st⟩, f, v) :: cs) ↔ Stab1 P T hs x f v st ∧ StabAll P T hs cs := by
  unfold StabAll
  rw [List.all_cons, Bool.and_eq_true]
  refine and_congr ?_ Iff.rfl
  unfold stabOk Stab1 HAt
  rw [List.all_eq_true]
  refine forall_congr' fun t => forall_congr' fun ht => ?_
  simp only []
  constructor
  · intro h
    split at h
    · rename_i H hH
      refine ⟨H, hH, ?_⟩
      split at h
      · rename_i r hr
        obtain ⟨u, H'⟩ := r
        exact ⟨u, H', hr, h⟩
      · simp at h
    · simp at h
  · rintro ⟨H, hH, u, H', hr, h⟩
    rw [hH]
    simp only [hr]
    exact h
def DR (P : Program) (T : XTab) (t : Nat) (ds : List XDop) (fr : Fr) (H : AH) (hs : List (Nat × AH)) (cs : List (XDop × Fr × Value)) (Q : Fr → AH → Prop) : Prop :=
  ∃ r, drun P (xc P T) t ds fr H hs cs = some r ∧ StabAll P T r.hs r.cs ∧ Q r.fr r.H
theorem qb_E (t : Nat) (fr : Fr) (H : AH) (hs : List (Nat × AH)) (cs : List (XDop × Fr × Value)) (Q : Fr → AH → Prop) : DR P T t [] fr H hs cs Q ↔ StabAll P T hs cs ∧ Q fr H := by
  unfold DR
  constructor
  · rintro ⟨r, h1, h2, h3⟩
    simp only [drun, Option.some.injEq] at h1
    subst h1
    exact ⟨h2, h3⟩
  · rintro ⟨h2, h3⟩
    exact ⟨_, rfl, h2, h3⟩
theorem qb_F (t : Nat) (x : XOper) (rd : List Nat) (kd : Nat) (st : List Nat) (ds : List XDop) (fr : Fr) (H : AH) (hs : List (Nat × AH)) (cs : List (XDop × Fr × Value)) (Q : Fr → AH → Prop) :
    DR P T t (.mk x rd kd st :: ds) fr H hs cs Q ↔ Got (xval P (xc P T) x (fr.keep rd) H) fun v H' => DR P T (t + 1) ds (fr.put? x.dst v) H' (hsPut kd (t + 1, H') hs) (addC x rd kd st (fr.keep rd) v cs) Q := by
  unfold DR Got
  constructor
  · rintro ⟨r, h1, h2, h3⟩
    simp only [drun] at h1
    split at h1
    · rename_i v H' hv
      exact ⟨v, H', hv, r, h1, h2, h3⟩
    · cases h1
  · rintro ⟨v, H', hv, r, h1, h2, h3⟩
    refine ⟨r, ?_, h2, h3⟩
    simp only [drun, hv]
    exact h1
theorem run_dopsS (ds : List XDop) (keep : List Nat) (fr : Fr) (H : AH) (Q : XExit → Fr → AH → Prop) (h : DR P T 0 ds fr H [(0, H)] [] fun fr' H' => Q .normal (fr'.keep keep) H') :
    Run P T (.dops ds keep) fr H Q := by
  obtain ⟨r, h1, h2, h3⟩ := h
  refine ⟨.normal, r.fr.keep keep, r.H, ?_, h3⟩
  rw [xw_eq]
  have h2' : r.cs.all (stabOk P (xc P T) r.hs) = true := h2
  simp only [xstep, show xcallOf T (xw P T) = xc P T from rfl, xdops, h1, h2', cond_true]
theorem xdops_of_dr {ds : List XDop} {fr : Fr} {H : AH} {Q : Fr → AH → Prop} (h : DR P T 0 ds fr H [(0, H)] [] Q) : ∃ fr' H', xdops P (xc P T) ds fr H = some (fr', H') ∧ Q fr' H' := by
  obtain ⟨r, h1, h2, h3⟩ := h
  refine ⟨r.fr, r.H, ?_, h3⟩
  have h2' : r.cs.all (stabOk P (xc P T) r.hs) = true := h2
  simp only [xdops, h1, h2', cond_true]
theorem run_dalt (l1 l2 : List XDop) (keep : List Nat) (fr : Fr) (H : AH) (Q : XExit → Fr → AH → Prop) (h : DR P T 0 l1 fr H [(0, H)] [] fun fr' H' => DR P T 0 l2 fr H [(0, H)] [] (fun a b => a = fr' ∧ b = H') ∧ Q .normal (fr'.keep keep) H') :
    Run P T (.dalt l1 l2 keep) fr H Q := by
  obtain ⟨fr', H', h1, h2, h3⟩ := xdops_of_dr h
  obtain ⟨a, b, h4, rfl, rfl⟩ := xdops_of_dr h2
  refine ⟨.normal, a.keep keep, b, ?_, h3⟩
  rw [xw_eq]
  simp only [xstep, show xcallOf T (xw P T) = xc P T from rfl, h1]
  rw [agree_pos h4]
  rfl
theorem qb_N {d : Option Nat} {op : XOp} {k : Nat} {fr : Fr} {H : AH} (h : fr.get k = some (.bool true)) : xval P (xc P T) ⟨d, op, some (k, true)⟩ fr H = xval P (xc P T) ⟨d, op, none⟩ fr H := by
  unfold xval; simp only [xwanted, h]; rfl
theorem qb_O {d : Option Nat} {op : XOp} {k : Nat} {fr : Fr} {H : AH} (h : fr.get k = some (.bool false)) : xval P (xc P T) ⟨d, op, some (k, true)⟩ fr H = some (undef, H) := by
  unfold xval; simp only [xwanted, h]; rfl
theorem qb_P {d : Option Nat} {op : XOp} {k : Nat} {fr : Fr} {H : AH} (h : fr.get k = some (.bool false)) : xval P (xc P T) ⟨d, op, some (k, false)⟩ fr H = xval P (xc P T) ⟨d, op, none⟩ fr H := by
  unfold xval; simp only [xwanted, h]; rfl
theorem qb_Q {d : Option Nat} {op : XOp} {k : Nat} {fr : Fr} {H : AH} (h : fr.get k = some (.bool true)) : xval P (xc P T) ⟨d, op, some (k, false)⟩ fr H = some (undef, H) := by
  unfold xval; simp only [xwanted, h]; rfl
theorem qb_R (k : IntKind) (a : Int) : veq (.int k a) (.int k a) = true := by simp [veq, veq1]
theorem qb_S (a : Bool) : veq (.bool a) (.bool a) = true := by simp [veq, veq1]
theorem qb_T (a : Addr) : veq (.pointer (some a)) (.pointer (some a)) = true := by simp [veq, veq1]
theorem qb_U (p : Option Addr) (l c : Nat) : veq (.slice p l c) (.slice p l c) = true := by cases p <;> simp [veq, veq1]
theorem Sl.veq {H : AH} {sz n : Nat} {v : Value} {cs : List Value} (h : Sl H sz v n cs) : veq v v = true := by
  rcases h with ⟨rfl, _⟩ | ⟨B, o, rfl, _⟩ | ⟨B, o, c, blk, rfl, _⟩ <;> exact qb_U _ _ _
/-! ### results that lie in a cell -/
theorem xress_cell (fr : Fr) (H : AH) (t B o : Nat) (n : Option Nat) (blk : Blk) (v : Value) (xs : List XRes) (h1 : fr.get t = some (.pointer (some ⟨B, o, none⟩))) (h2 : H.get B = some blk) (h3 : partV blk.cells o n = some v) :
    xress fr H (.cell t n :: xs) = (xress fr H xs).map fun vs => v :: vs := by
  simp only [xress, xres, h1, h2, h3]
  rcases xress fr H xs with _ | vs <;> rfl
/-! ### a struct of three in a box -/
section
variable {H : AH} {B : Nat} {a b c : Value}
theorem st3 {a' b' c' : Value} (h : H.get B = some ⟨[a, b, c], 1, false, false⟩) (h1 : one a' = true) (h2 : one b' = true) (h3 : one c' = true) : pSt 3 (.pointer (some ⟨B, 0, none⟩)) (.agg #[a', b', c']) H = some (undef, H.set B ⟨[a', b', c'], 1, false, false⟩) := by
  have e : vcells (.agg #[a', b', c']) = [a', b', c'] := rfl
  unfold pSt
  simp only [h, Option.bind_some, e, List.all_cons, List.all_nil, h1, h2, h3]
  rfl
end
/-! ### what stays -/
theorem Sl.same {H H' : AH} {sz n : Nat} {v : Value} {cs : List Value} (h : Sl H sz v n cs) (hn : H.n ≤ H'.n) (hg : ∀ b, inB v b → H'.get b = H.get b) : Sl H' sz v n cs := by
  rcases h with h | ⟨C, o, h1, h2, h3, h4⟩ | ⟨C, o, c, b, h1, h2, h3, h4⟩
  · exact .inl h
  · exact .inr (.inl ⟨C, o, h1, by omega, (hg C ⟨_, _, _, h1⟩).trans h3, h4⟩)
  · exact .inr (.inr ⟨C, o, c, b, h1, by omega, (hg C ⟨_, _, _, h1⟩).trans h3, h4⟩)
theorem Own.same {H H' : AH} {n0 sz n : Nat} {v : Value} {cs : List Value} (h : Own n0 sz H v n cs) (hn : H.n ≤ H'.n) (hg : ∀ b, inB v b → H'.get b = H.get b) : Own n0 sz H' v n cs := by
  refine ⟨Sl.same h.1 hn hg, fun C o l c e => ?_⟩
  obtain ⟨a, blk, b, c⟩ := h.2 C o l c e
  exact ⟨a, blk, (hg C ⟨_, _, _, e⟩).trans b, c⟩
end Go.Det

set_option linter.unusedSimpArgs false
set_option linter.unusedVariables false
namespace Go.Det

/-! ### an element of a slice of structs -/
theorem sl_ldn {H : AH} {sz n k : Nat} {s : Value} {cs : List Value} (h : Sl H sz s n cs) (hk : k < n) : pLd (some sz) (ptrAt s (k * sz)) H = some (.agg ((cs.drop (k * sz)).take sz).toArray, H) := by
  obtain ⟨B, o, c, blk, rfl, h1, h2, h3, h4, h5, h6⟩ := h.live (by omega)
  show ((H.get B).bind fun blk => (partV blk.cells (o + k * sz) (some sz)).map fun v => (v, H)) = _
  rw [h2]
  have m1 : (k + 1) * sz ≤ n * sz := Nat.mul_le_mul_right sz hk
  have m2 : n * sz ≤ c * sz := Nat.mul_le_mul_right sz h4
  rw [Nat.add_mul, Nat.one_mul] at m1
  have hle : Nat.ble (o + k * sz + sz) blk.cells.length = true := by rw [Nat.ble_eq]; omega
  have e : (blk.cells.drop (o + k * sz)).take sz = (cs.drop (k * sz)).take sz := by
    rw [← h6, List.drop_take, List.take_take, List.drop_drop, Nat.min_eq_left (by omega)]
  simp only [Option.bind_some, partV, hle, cond_true, e, Option.map_some]
/-! ### closures -/
def pCallV (c : XCall) (g : Value) (vs : List Value) (H : AH) : Option (Value × AH) :=
  match g with
  | .func (.func f) first caps => c f (first.toList ++ vs ++ caps.toList) H
  | _ => none
theorem v_callv {P : Program} {T : XTab} (fr : Fr) (H : AH) (dd : Option Nat) (y : Operand) (args : List Operand) : xval P (xc P T) ⟨dd, .callv y args, none⟩ fr H = (ev fr y).bind fun g => (evs fr args).bind fun vs => pCallV (xc P T) g vs H := by
  unfold xval
  simp only [xwanted]
  rcases ev fr y with _ | g
  · rfl
  rcases evs fr args with _ | vs
  · cases g <;> try rfl
    rename_i fn a b
    cases fn <;> rfl
  cases g <;> try rfl
  rename_i fn a b
  cases fn <;> rfl
theorem v_mkf {P : Program} {T : XTab} (fr : Fr) (H : AH) (dd : Option Nat) (f : FuncId) (args caps : List Operand) : xval P (xc P T) ⟨dd, .mkf (.func f) args caps, none⟩ fr H = (evs fr args).bind fun a => (evs fr caps).map fun b => (.func (.func f) a.toArray b.toArray, H) := by
  rw [xval_op dd _ fr H rfl]
  simp only [xop]
  rcases evs fr args with _ | a
  · rfl
  rcases evs fr caps with _ | b <;> rfl

/-! ### boxes of two cells, and of one -/
variable {H : AH} {B : Nat} {a b : Value}
end Go.Det

set_option linter.unusedSimpArgs false
set_option linter.unusedVariables false
namespace Go.Det

/-! ### slices of structs -/
structure LS (α : Type) where
  sz : Nat
  f : α → List Value
  len : ∀ a, (f a).length = sz
  pos : 1 ≤ sz
def LS.cells {α : Type} (S : LS α) (l : List α) : List Value := l.flatMap S.f
variable {α : Type} {S : LS α} {H : AH} {v : Value}
theorem LS.cells_app (l r : List α) : S.cells (l ++ r) = S.cells l ++ S.cells r := by simp [LS.cells]
theorem LS.cells_len (l : List α) : (S.cells l).length = l.length * S.sz := by
  induction l with
  | nil => simp [LS.cells]
  | cons a l ih =>
    have : S.cells (a :: l) = S.f a ++ S.cells l := by simp [LS.cells]
    rw [this, List.length_append, ih, S.len, List.length_cons, Nat.add_mul]; omega
def SL (S : LS α) (H : AH) (v : Value) (l : List α) : Prop := Sl H S.sz v l.length (S.cells l)
theorem SL.ld {pre rest : List α} {p : α} (h : SL S H v (pre ++ p :: rest)) : pLd (some S.sz) (ptrAt v (pre.length * S.sz)) H = some (.agg (S.f p).toArray, H) := by
  rw [sl_ldn h (by simp), LS.cells_app, List.drop_left' (LS.cells_len pre)]
  have : S.cells (p :: rest) = S.f p ++ S.cells rest := by simp [LS.cells]
  rw [this, List.take_left' (S.len p)]
theorem SL.ext {H' : AH} {l : List α} (h : SL S H v l) (x : HExt H H') : SL S H' v l := Sl.ext x h
def OL (S : LS α) (n0 : Nat) (H : AH) (v : Value) (l : List α) : Prop := Own n0 S.sz H v l.length (S.cells l)
theorem OL.sl {n0 : Nat} {l : List α} (h : OL S n0 H v l) : SL S H v l := h.1
theorem OL.nil (S : LS α) (n0 : Nat) (H : AH) : OL S n0 H (.slice none 0 0) [] := Own.nil _ _ _
theorem OL.ext {n0 : Nat} {H' : AH} {l : List α} (h : OL S n0 H v l) (x : HExt H H') : OL S n0 H' v l := Own.ext x h
theorem OL.le {n0 n1 : Nat} {l : List α} (h : OL S n1 H v l) (hl : n0 ≤ n1) : OL S n0 H v l := Own.le h hl
theorem OL.same {n0 : Nat} {H' : AH} {l : List α} (h : OL S n0 H v l) (hn : H.n ≤ H'.n) (hg : ∀ b, n0 ≤ b → b < H.n → H'.get b = H.get b) : OL S n0 H' v l := Own.same h hn fun b hb => hg b (by
  obtain ⟨o, l, c, e⟩ := hb
  exact (h.2 b o l c e).1) (h.1.lt hb)
theorem OL.ge {n0 : Nat} {l : List α} (h : OL S n0 H v l) {b : Nat} (hb : inB v b) : n0 ≤ b := by
  obtain ⟨o, l, c, e⟩ := hb
  exact (h.2 b o l c e).1
/-- elements more, out of a slice that was made for them -/
theorem OL.push {n0 : Nat} {l : List α} (m : List α) (h : OL S n0 H v l) (hn : n0 ≤ H.n) (h1 : (S.cells m).all one = true) (bytes : Nat) (hby : 1 ≤ bytes) (hle : (l.length + m.length) * bytes ≤ 140737488355328) {Q : Value → AH → Prop}
    (hq : ∀ v' H', OL S n0 H' v' (l ++ m) → Keep n0 H H' → (∀ b, b < H.n → ¬ inB v b → H'.get b = H.get b) → (∀ b, inB v' b → inB v b ∨ H.n ≤ b) → H.n ≤ H'.n → Q v' H') :
    Got (xapp (H.push ⟨S.cells m, S.sz, false, false⟩) S.sz bytes v (.slice (some ⟨H.n, 0, none⟩) m.length m.length)) Q := by
  have x1 := hext_push H ⟨S.cells m, S.sz, false, false⟩
  have hn1 : (H.push ⟨S.cells m, S.sz, false, false⟩).n = H.n + 1 := rfl
  have o1 := h.ext x1
  refine xapp_own o1 (by omega) (Sl.pushed H (S.cells m) S.sz m.length false false (LS.cells_len m)) h1 S.pos hby hle ?_
  intro v' H' o st
  have hnn := st.n
  refine hq v' H' ?_ (Keep.trans (HExt.keep x1 hn) (st.keep o1 (by omega))) (fun b hb hv => (st.get b (by omega) hv).trans (x1.2 b hb)) (fun b hb => ?_) (by omega)
  · unfold OL
    rw [LS.cells_app, List.length_append]
    exact o
  · rcases st.new b hb with h2 | h2
    · exact .inl h2
    · exact .inr (by omega)

/-! ### boxes of four cells -/
variable {B : Nat} {a b c d : Value}
end Go.Det

set_option linter.unusedSimpArgs false
set_option linter.unusedVariables false
namespace Go.Det
variable {P : Program} {T : XTab}

/-! ### loops by an invariant -/
/-- A loop of n rounds: in each the invariant goes on, or the loop is left in a way that R tells; at the end it is left into Q. -/
theorem run_invR {c : XCode} {fr : Fr} {H : AH} {Q : XExit → Fr → AH → Prop} (I : Nat → Fr → AH → Prop) (R : XExit → Fr → AH → Prop) (n : Nat) (h0 : I 0 fr H)
    (hs : ∀ k, k < n → ∀ fr H, I k fr H → ∀ J : XExit → Fr → AH → Prop, (∀ fr H, I (k + 1) fr H → J .normal fr H) → (∀ e fr H, R e fr H → J e fr H) → Run P T c fr H J)
    (hr : ∀ e fr H, e ≠ .normal → R e fr H → Q e fr H) (hR : ∀ fr H, R .normal fr H → False)
    (he : ∀ fr H, I n fr H → Run P T c fr H (thenQ (fun _ _ => False) Q)) : Run P T (.loop c) fr H Q := by
  have go : ∀ r k fr H, k + r = n → I k fr H → Run P T (.loop c) fr H Q := by
    intro r
    induction r with
    | zero =>
      intro k fr H hk h
      have : k = n := by omega
      subst this
      rw [run_loop]
      refine Run.mono (he fr H h) fun e fr H hq => ?_
      cases e with
      | normal => exact absurd hq (by rw [q_g]; exact id)
      | exit j => exact hq
      | ret => exact hq
    | succ r ih =>
      intro k fr H hk h
      rw [run_loop]
      refine hs k (by omega) fr H h _ (fun fr H h1 => ?_) fun e fr H hq => ?_
      · rw [q_g]
        exact ih (k + 1) fr H (by omega) h1
      · cases e with
        | normal => exact absurd hq (hR fr H)
        | exit j => exact hr _ fr H (by simp) hq
        | ret => exact hr _ fr H (by simp) hq
  exact go n 0 fr H (by omega) h0
theorem run_inv {c : XCode} {fr : Fr} {H : AH} {Q : XExit → Fr → AH → Prop} (I : Nat → Fr → AH → Prop) (n : Nat) (h0 : I 0 fr H)
    (hs : ∀ k, k < n → ∀ fr H, I k fr H → ∀ J : XExit → Fr → AH → Prop, (∀ fr H, I (k + 1) fr H → J .normal fr H) → Run P T c fr H J)
    (he : ∀ fr H, I n fr H → Run P T c fr H (thenQ (fun _ _ => False) Q)) : Run P T (.loop c) fr H Q :=
  run_invR I (fun _ _ _ => False) n h0 (fun k hk fr H h J hJ _ => hs k hk fr H h J hJ) (fun _ _ _ _ h => h.elim) (fun _ _ h => h) he

theorem HExt.trans' {A B C : AH} (h : HExt A B) (hn : B.n ≤ C.n) (hg : ∀ b, b < A.n → C.get b = B.get b) : HExt A C := ⟨Nat.le_trans h.1 hn, fun b hb => (hg b hb).trans (h.2 b hb)⟩

/-! ### structs and rows that are built -/
/-- so many cells put over others -/
def fillN (off n : Nat) (v : Value) (cs : List Value) (k : List Value → Option (List Value)) : Option (List Value) :=
  bif Nat.beq (vcells v).length n && Nat.ble (off + n) cs.length && (vcells v).all one then k (splice cs off (vcells v)) else none
theorem qb_Y (fr : Fr) (cs : List Value) : xfill fr [] cs = some cs := rfl
theorem qb_X (fr : Fr) (off n : Nat) (x : Operand) (ps : List (Nat × Nat × Operand)) (cs : List Value) : xfill fr ((off, n, x) :: ps) cs = (ev fr x).bind fun v => fillN off n v cs fun cs' => xfill fr ps cs' := by
  simp only [xfill]
  cases ev fr x <;> rfl
theorem qb_Z {off : Nat} {v : Value} {cs : List Value} {k : List Value → Option (List Value)} (h1 : one v = true) (h2 : vcells v = [v]) (h : off < cs.length) : fillN off 1 v cs k = k (cs.set off v) := by
  unfold fillN
  have h3 : Nat.ble (off + 1) cs.length = true := by rw [Nat.ble_eq]; exact h
  have h4 : splice cs off [v] = cs.set off v := by rw [← splice_cons _ _ _ _ (by rw [List.length_nil]; omega), splice_nil]
  rw [h2, h3, h4]
  simp only [List.all_cons, List.all_nil, h1]
  rfl
theorem fillN_agg {off n : Nat} {cs ds : List Value} {k : List Value → Option (List Value)} (h1 : ds.all one = true) (h2 : ds.length = n) (h3 : off + n ≤ cs.length) : fillN off n (.agg ds.toArray) cs k = k (cs.take off ++ ds ++ cs.drop (off + n)) := by
  have e : vcells (.agg ds.toArray) = ds := rfl
  have h4 : Nat.beq ds.length n = true := by rw [Nat.beq_eq]; exact h2
  have h5 : Nat.ble (off + n) cs.length = true := by rw [Nat.ble_eq]; exact h3
  unfold fillN
  simp only [e, h1, h4, h5, Bool.true_and, Bool.and_true, cond_true]
  unfold splice
  rw [h2]
theorem one_int (k : IntKind) (n : Int) : one (.int k n) = true := congrArg id rfl
theorem one_bool (b : Bool) : one (.bool b) = true := congrArg id rfl
theorem one_str (s : ByteArray) : one (.string s) = true := congrArg id rfl
theorem one_ptr (p : Option Addr) : one (.pointer p) = true := congrArg id rfl
theorem one_slc (p : Option Addr) (l c : Nat) : one (.slice p l c) = true := congrArg id rfl
theorem vc_int (k : IntKind) (n : Int) : vcells (.int k n) = [.int k n] := congrArg id rfl
theorem vc_bool (b : Bool) : vcells (.bool b) = [.bool b] := congrArg id rfl
theorem vc_str (s : ByteArray) : vcells (.string s) = [.string s] := congrArg id rfl
theorem vc_ptr (p : Option Addr) : vcells (.pointer p) = [.pointer p] := congrArg id rfl
theorem vc_slc (p : Option Addr) (l c : Nat) : vcells (.slice p l c) = [.slice p l c] := congrArg id rfl
theorem vb {fr : Fr} {H : AH} {dd : Option Nat} {zs : List Value} {ps : List (Nat × Nat × Operand)} : xval P (xc P T) ⟨dd, .build zs ps, none⟩ fr H = (xfill fr ps zs).map fun cs => (.agg cs.toArray, H) := (xval_op dd _ fr H rfl).trans (e_build zs ps)
theorem vbs {fr : Fr} {H : AH} {dd : Option Nat} {e : TypeId} {sz n : Nat} {zs : List Value} {ps : List (Nat × Operand)} : xval P (xc P T) ⟨dd, .bslice e sz n zs ps, none⟩ fr H = (xfill fr (ps.map fun p => (p.1 * sz, sz, p.2)) (rep n zs)).map fun cs => (.slice (some ⟨H.n, 0, none⟩) n n, H.push ⟨cs, sz, false, false⟩) := (xval_op dd _ fr H rfl).trans (e_bslice e sz n zs ps)

/-! ### blocks of ours, cell by cell -/
def Bx (H : AH) (E : Nat) (cs : List Value) : Prop := H.get E = some ⟨cs, 1, false, false⟩ ∧ E < H.n
theorem Bx.ext {H H' : AH} {E : Nat} {cs : List Value} (h : Bx H E cs) (x : HExt H H') : Bx H' E cs := ⟨(x.2 E h.2).trans h.1, Nat.lt_of_lt_of_le h.2 x.1⟩
theorem Bx.keep {n0 : Nat} {H H' : AH} {E : Nat} {cs : List Value} (h : Bx H E cs) (x : Keep n0 H H') (hE : E < n0) : Bx H' E cs := ⟨(x.2 E hE).trans h.1, Nat.lt_of_lt_of_le h.2 x.1⟩
theorem Bx.ld {H : AH} {E : Nat} {cs : List Value} (h : Bx H E cs) (k : Nat) (x : Value) (hx : cs[k]? = some x) : pLd none (.pointer (some ⟨E, k, none⟩)) H = some (x, H) := by
  unfold pLd
  simp only [h.1, Option.bind_some]
  have : partV cs k none = some x := hx
  rw [this]; rfl
theorem Bx.ldn {H : AH} {E : Nat} {cs : List Value} (h : Bx H E cs) (n : Nat) (hn : n = cs.length) : pLd (some n) (.pointer (some ⟨E, 0, none⟩)) H = some (.agg cs.toArray, H) := by
  subst hn
  unfold pLd
  simp only [h.1, Option.bind_some]
  have : partV cs 0 (some cs.length) = some (.agg cs.toArray) := by
    show (bif Nat.ble (0 + cs.length) cs.length then some (Value.agg ((cs.drop 0).take cs.length).toArray) else none) = _
    have h2 : Nat.ble (0 + cs.length) cs.length = true := by rw [Nat.zero_add, Nat.ble_eq]; exact Nat.le_refl _
    rw [h2, List.drop_zero, List.take_length]; rfl
  rw [this]; rfl
theorem Bx.st {H : AH} {E : Nat} {cs : List Value} (h : Bx H E cs) (k : Nat) (hk : k < cs.length) (x : Value) (h1 : one x = true) (h2 : vcells x = [x]) : pSt 1 (.pointer (some ⟨E, k, none⟩)) x H = some (undef, H.set E ⟨cs.set k x, 1, false, false⟩) := by
  unfold pSt
  simp only [h.1, Option.bind_some, h2]
  have h3 : Nat.ble (k + 1) cs.length = true := by rw [Nat.ble_eq]; exact hk
  have h4 : splice cs k [x] = cs.set k x := by rw [← splice_cons _ _ _ _ (by rw [List.length_nil]; omega), splice_nil]
  rw [h3, h4]
  simp only [List.all_cons, List.all_nil, h1]
  rfl
/-- the whole block is put -/
theorem Bx.stn {H : AH} {E : Nat} {cs : List Value} (h : Bx H E cs) (n : Nat) (ds : List Value) (hn : n = cs.length) (hd : ds.length = n) (h1 : ds.all one = true) : pSt n (.pointer (some ⟨E, 0, none⟩)) (.agg ds.toArray) H = some (undef, H.set E ⟨ds, 1, false, false⟩) := by
  subst hn
  unfold pSt
  have e : vcells (.agg ds.toArray) = ds := rfl
  have h3 : Nat.ble (0 + cs.length) cs.length = true := by rw [Nat.zero_add, Nat.ble_eq]; exact Nat.le_refl _
  have h4 : Nat.beq ds.length cs.length = true := by rw [Nat.beq_eq]; exact hd
  have h5 : splice cs 0 ds = ds := by
    unfold splice
    rw [List.take_zero, List.nil_append, Nat.zero_add, hd, List.drop_length, List.append_nil]
  simp only [h.1, Option.bind_some, e, h3, h4, h1, h5]
  rfl
theorem Bx.set {H : AH} {E : Nat} {cs : List Value} (h : Bx H E cs) (cs' : List Value) : Bx (H.set E ⟨cs', 1, false, false⟩) E cs' := ⟨by rw [AH.get_set, if_pos rfl], h.2⟩
theorem Bx.new (H : AH) (cs : List Value) : Bx (H.push ⟨cs, 1, false, false⟩) H.n cs := ⟨by rw [AH.get_push, if_pos rfl], Nat.lt_succ_self _⟩
theorem Bx.same {H H' : AH} {E : Nat} {cs : List Value} (h : Bx H E cs) (hn : H.n ≤ H'.n) (hg : H'.get E = H.get E) : Bx H' E cs := ⟨hg.trans h.1, Nat.lt_of_lt_of_le h.2 hn⟩
/-- a box that is made and filled at once -/
theorem Bx.mk (H : AH) (zs cs : List Value) : Bx ((H.push ⟨zs, 1, false, false⟩).set H.n ⟨cs, 1, false, false⟩) H.n cs := (Bx.new H zs).set cs
theorem fldAk (B k : Nat) (H : AH) : pFldA k (.pointer (some ⟨B, 0, none⟩)) H = some (.pointer (some ⟨B, k, none⟩), H) := by
  show some (Value.pointer (some ⟨B, 0 + k, none⟩), H) = _
  rw [Nat.zero_add]
theorem ptr_fld {H : AH} {sz n k off : Nat} {s : Value} {cs : List Value} (h : Sl H sz s n cs) (hn : 0 < n) : pFldA off (ptrAt s k) H = some (ptrAt s (k + off), H) := by
  obtain ⟨B, o, c, blk, rfl, _⟩ := h.live hn
  show some (Value.pointer (some ⟨B, o + k + off, none⟩), H) = some (.pointer (some ⟨B, o + (k + off), none⟩), H)
  rw [Nat.add_assoc]

/-! ### rows of structs, by an element's number -/
variable {α : Type} {S : LS α} {H : AH} {v : Value}
theorem SL.at {l : List α} (h : SL S H v l) (kd : IntKind) (i : Int) (k : Nat) (hi : i = (k : Int)) (hk : k < l.length) : pIdx S.sz v (.int kd i) H = some (ptrAt v (k * S.sz), H) := pIdx_ok h kd i k hi hk
theorem LS.cells_at (S : LS α) (l : List α) (k : Nat) (a : α) (h : l[k]? = some a) (off : Nat) (x : Value) (hx : (S.f a)[off]? = some x) : (S.cells l)[k * S.sz + off]? = some x := by
  obtain ⟨hk, e⟩ := List.getElem?_eq_some_iff.1 h
  have hl : l = l.take k ++ a :: l.drop (k + 1) := by rw [← e, ← List.drop_eq_getElem_cons hk, List.take_append_drop]
  have ho := (List.getElem?_eq_some_iff.1 hx).1
  rw [hl, LS.cells_app, List.getElem?_append_right (by rw [LS.cells_len, List.length_take, Nat.min_eq_left (by omega)]; omega), LS.cells_len, List.length_take, Nat.min_eq_left (by omega), show k * S.sz + off - k * S.sz = off by omega]
  have : S.cells (a :: l.drop (k + 1)) = S.f a ++ S.cells (l.drop (k + 1)) := by simp [LS.cells]
  rw [this, List.getElem?_append_left ho, hx]
theorem SL.cell {l : List α} (h : SL S H v l) (k : Nat) (a : α) (ha : l[k]? = some a) (off : Nat) (x : Value) (hx : (S.f a)[off]? = some x) : pLd none (ptrAt v (k * S.sz + off)) H = some (x, H) := pLd_one h _ _ (LS.cells_at S l k a ha off x hx)
theorem SL.ldk {l : List α} (h : SL S H v l) (k : Nat) (a : α) (ha : l[k]? = some a) : pLd (some S.sz) (ptrAt v (k * S.sz)) H = some (.agg (S.f a).toArray, H) := by
  obtain ⟨hk, e⟩ := List.getElem?_eq_some_iff.1 ha
  have hl : l = l.take k ++ a :: l.drop (k + 1) := by rw [← e, ← List.drop_eq_getElem_cons hk, List.take_append_drop]
  have hlen : (l.take k).length = k := by rw [List.length_take]; omega
  rw [hl] at h
  have := h.ld
  rwa [hlen] at this
theorem SL.fld {l : List α} (h : SL S H v l) (off k : Nat) (hl : 0 < l.length) : pFldA off (ptrAt v k) H = some (ptrAt v (k + off), H) := ptr_fld h hl
theorem wrS (k : Nat) (h : k < 4611686018427387904) : IntKind.i64.wrap ((k : Int) + 1) = ((k + 1 : Nat) : Int) := by rw [wrI _ (by omega) (by omega)]; omega
/-- another row's elements behind those of one that is owned -/
theorem OL.app {n0 : Nat} {l m : List α} {y : Value} (h : OL S n0 H v l) (hn : n0 ≤ H.n) (hs : SL S H y m) (h1 : (S.cells m).all one = true) (bytes : Nat) (hby : 1 ≤ bytes) (hle : (l.length + m.length) * bytes ≤ 140737488355328) {Q : Value → AH → Prop}
    (hq : ∀ v' H', OL S n0 H' v' (l ++ m) → Keep n0 H H' → (∀ b, b < H.n → ¬ inB v b → H'.get b = H.get b) → (∀ b, inB v' b → inB v b ∨ H.n ≤ b) → H.n ≤ H'.n → Q v' H') :
    Got (xapp H S.sz bytes v y) Q := by
  refine xapp_own h hn hs h1 S.pos hby hle ?_
  intro v' H' o st
  refine hq v' H' ?_ (st.keep h hn) st.get st.new st.n
  unfold OL
  rw [LS.cells_app, List.length_append]
  exact o
theorem take_succ_at {β : Type} (l : List β) (k : Nat) (a : β) (h : l[k]? = some a) : l.take (k + 1) = l.take k ++ [a] := by
  rw [List.take_add_one, h]; rfl
end Go.Det

set_option linter.unusedSimpArgs false
set_option linter.unusedVariables false
namespace Go.Det
variable {P : Program} {T : XTab}

/-! ### texts as lists of bytes -/
def Oct (l : List Int) : Prop := ∀ b ∈ l, 0 ≤ b ∧ b < 256
def sB (l : List Int) : ByteArray := ⟨(l.map fun n => UInt8.ofNat n.toNat).toArray⟩
theorem sB_size (l : List Int) : (sB l).size = l.length := by
  show ((l.map fun n => UInt8.ofNat n.toNat).toArray).size = _
  simp
theorem sB_toList (l : List Int) : (sB l).data.toList = l.map fun n => UInt8.ofNat n.toNat := by simp [sB]
theorem u8_back {n : Int} (h : 0 ≤ n ∧ n < 256) : (((UInt8.ofNat n.toNat).toNat : Nat) : Int) = n := by
  rw [UInt8.toNat_ofNat']
  have : n.toNat % 2 ^ 8 = n.toNat := Nat.mod_eq_of_lt (by omega)
  rw [this]; omega
theorem sB_cells (l : List Int) (h : Oct l) : strCells (sB l) = l.map (Value.int .u8) := by
  unfold strCells
  rw [sB_toList, List.map_map]
  refine List.map_congr_left fun n hn => ?_
  show Value.int .u8 (((UInt8.ofNat n.toNat).toNat : Nat) : Int) = _
  rw [u8_back (h n hn)]
theorem sB_inj {a b : List Int} (ha : Oct a) (hb : Oct b) (h : sB a = sB b) : a = b := by
  have h1 := sB_cells a ha
  rw [h, sB_cells b hb] at h1
  have : ∀ a b : List Int, a.map (Value.int .u8) = b.map (Value.int .u8) → b = a := by
    intro a
    induction a with
    | nil => intro b h; simpa using h
    | cons x a ih =>
      intro b h
      cases b with
      | nil => simp at h
      | cons y b =>
        simp only [List.map_cons, List.cons.injEq, Value.int.injEq, true_and] at h
        rw [ih b h.2, h.1]
  exact this b a h1
theorem sB_app (a b : List Int) : sB a ++ sB b = sB (a ++ b) := by
  apply ByteArray.ext
  show (sB a ++ sB b).data = _
  rw [ByteArray.data_append]
  simp [sB]
theorem ba_loop (s : ByteArray) : ∀ (f i : Nat) (r : List UInt8), s.size - i ≤ f → ByteArray.toList.loop s i r = r.reverse ++ s.data.toList.drop i := by
  intro f
  induction f with
  | zero =>
    intro i r h
    have hsz : s.data.toList.length = s.size := Array.length_toList
    unfold ByteArray.toList.loop
    rw [if_neg (by omega), List.drop_eq_nil_of_le (by omega), List.append_nil]
  | succ f ih =>
    intro i r h
    have hsz : s.data.toList.length = s.size := Array.length_toList
    unfold ByteArray.toList.loop
    by_cases hi : i < s.size
    · rw [if_pos hi, ih (i + 1) _ (by omega)]
      have hi' : i < s.data.size := hi
      have hg : s.get! i = s.data.toList[i]'(by omega) := by
        show s.data[i]! = _
        rw [getElem!_pos s.data i hi', Array.getElem_toList]
      rw [List.reverse_cons, hg, List.append_assoc, List.singleton_append, ← List.drop_eq_getElem_cons (by omega)]
    · rw [if_neg hi, List.drop_eq_nil_of_le (by omega), List.append_nil]
theorem ba_toList (s : ByteArray) : s.toList = s.data.toList := by
  unfold ByteArray.toList
  rw [ba_loop s s.size 0 [] (by omega)]
  simp
theorem sB_toL (l : List Int) : (sB l).toList = l.map fun n => UInt8.ofNat n.toNat := by rw [ba_toList, sB_toList]
theorem u8l_inj {a b : List Int} (ha : Oct a) (hb : Oct b) : ((a.map fun n => UInt8.ofNat n.toNat) == (b.map fun n => UInt8.ofNat n.toNat)) = decide (a = b) := by
  by_cases h : a = b
  · subst h; simp
  · rw [decide_eq_false h, beq_eq_false_iff_ne]
    intro h2
    exact h (sB_inj ha hb (by unfold sB; rw [h2]))
theorem sB_beq {a b : List Int} (ha : Oct a) (hb : Oct b) : (sB a == sB b) = decide (a = b) := by
  by_cases h : a = b
  · subst h; rw [ba_self]; simp
  · rw [decide_eq_false h]
    cases hc : (sB a == sB b)
    · rfl
    · exact absurd (sB_inj ha hb (ba_beq.1 hc)) h
theorem str_eql {a b : List Int} (ha : Oct a) (hb : Oct b) : xbin .eql (.string (sB a)) (.string (sB b)) = some (.bool (decide (a = b))) := by
  show sbin .eql (sB a) (sB b) = _
  simp only [sbin, sB_toL, u8l_inj ha hb]
theorem str_neq {a b : List Int} (ha : Oct a) (hb : Oct b) : xbin .neq (.string (sB a)) (.string (sB b)) = some (.bool (!decide (a = b))) := by
  show sbin .neq (sB a) (sB b) = _
  simp only [sbin, sB_toL, u8l_inj ha hb]
theorem str_add (a b : List Int) (h : a.length + b.length ≤ 1000000000) : xbin .add (.string (sB a)) (.string (sB b)) = some (.string (sB (a ++ b))) := by
  show sbin .add (sB a) (sB b) = _
  have : ¬ (((sB a).size + (sB b).size : Nat) : Int) > IntKind.i64.max := by
    rw [sB_size, sB_size]
    show ¬ ((a.length + b.length : Nat) : Int) > 9223372036854775807
    omega
  simp only [sbin, this, if_false, sB_app]

/-! #### operations on texts -/
def pLens (a : Value) (H : AH) : Option (Value × AH) :=
  match a with
  | .string s => some (.int .i64 (Int.ofNat s.size), H)
  | _ => none
theorem v_lens {fr : Fr} {H : AH} (dd : Option Nat) (x : Operand) : xval P (xc P T) ⟨dd, .lens x, none⟩ fr H = (ev fr x).bind fun a => pLens a H := by
  rw [xval_op dd _ fr H rfl]
  simp only [xop]
  rcases ev fr x with _ | v
  · rfl
  · cases v <;> rfl
theorem pLens_sB (l : List Int) (H : AH) : pLens (.string (sB l)) H = some (.int .i64 (l.length : Int), H) := by
  show some (Value.int .i64 (Int.ofNat (sB l).size), H) = _
  rw [sB_size]; rfl
def pS2b (a : Value) (H : AH) : Option (Value × AH) :=
  match a with
  | .string s => some (.slice (some ⟨H.n, 0, none⟩) s.size s.size, H.push ⟨strCells s, 1, true, false⟩)
  | _ => none
theorem v_s2b {fr : Fr} {H : AH} (dd : Option Nat) (e : TypeId) (x : Operand) : xval P (xc P T) ⟨dd, .s2b e x, none⟩ fr H = (ev fr x).bind fun a => pS2b a H := by
  rw [xval_op dd _ fr H rfl]
  simp only [xop]
  rcases ev fr x with _ | v
  · rfl
  · cases v <;> rfl
theorem pS2b_sB (l : List Int) (h : Oct l) (H : AH) : pS2b (.string (sB l)) H = some (.slice (some ⟨H.n, 0, none⟩) l.length l.length, H.push ⟨l.map (.int .u8), 1, true, false⟩) := by
  show some (Value.slice (some ⟨H.n, 0, none⟩) (sB l).size (sB l).size, H.push ⟨strCells (sB l), 1, true, false⟩) = _
  rw [sB_size, sB_cells l h]
/-- a text's byte -/
def pSix (a i : Value) (H : AH) : Option (Value × AH) :=
  match a, i with
  | .string s, .int _ (.ofNat k) => if h : k < s.size then some (.int .u8 ((s[k]).toNat : Int), H) else none
  | _, _ => none
theorem flat_six {fr : Fr} {H : AH} {t t' : TypeId} (hu : P.underlying t = some .string) (x i : Operand) (s : ByteArray) (kd : IntKind) (k : Nat) (hx : ev fr x = some (.string s)) (hi : ev fr i = some (.int kd (.ofNat k))) (h : k < s.size) :
    xop P fr H (.flat (.index t x i) t') = some (.int .u8 ((s[k]).toNat : Int), H) := by
  refine flat_eq ?_ ?_ rfl
  · simp [Op.operands, evFlat, hx, hi, flatD]
  · have h1 : s[k]? = some s[k] := by simp [h]
    simp only [execOp, flatOper, hx, hi, Option.getD_some]
    simp [Instr.index, asIntOf, pureRun_bind, pureRun_underlying hu, pureRun_pure, pureRun_map, h1]
theorem v_six {fr : Fr} {H : AH} {t : TypeId} (hu : P.underlying t = some .string) (dd : Option Nat) (x i : Operand) (t' : TypeId) : xval P (xc P T) ⟨dd, .flat (.index t x i) t', none⟩ fr H =
    match pSix ((ev fr x).getD undef) ((ev fr i).getD undef) H with | some r => some r | none => xop P fr H (.flat (.index t x i) t') := by
  rw [xval_op dd _ fr H rfl]
  split
  · rename_i r hr
    unfold pSix at hr
    split at hr
    · rename_i s kd k h1 h2
      split at hr
      · rename_i hk
        have hx : ev fr x = some (.string s) := by
          cases he : ev fr x with
          | none => rw [he] at h1; cases h1
          | some v => rw [he] at h1; exact congrArg some h1
        have hi : ev fr i = some (.int kd (.ofNat k)) := by
          cases he : ev fr i with
          | none => rw [he] at h2; cases h2
          | some v => rw [he] at h2; exact congrArg some h2
        rw [flat_six hu x i s kd k hx hi hk]; exact hr
      · cases hr
    · cases hr
  · rfl
theorem sB_get (l : List Int) (h : Oct l) (k : Nat) (hk : k < l.length) (hk2 : k < (sB l).size) : (((sB l)[k]).toNat : Int) = l[k] := by
  have : (sB l)[k] = UInt8.ofNat (l[k]).toNat := by
    show ((l.map fun n => UInt8.ofNat n.toNat).toArray)[k]'(by simpa using hk) = _
    simp
  rw [this]
  exact u8_back (h _ (List.getElem_mem _))
theorem pSix_sB (l : List Int) (h : Oct l) (kd : IntKind) (i : Int) (k : Nat) (hi : i = (k : Int)) (x : Int) (hx : l[k]? = some x) (H : AH) : pSix (.string (sB l)) (.int kd i) H = some (.int .u8 x, H) := by
  subst hi
  obtain ⟨hk, e⟩ := List.getElem?_eq_some_iff.1 hx
  have hk2 : k < (sB l).size := by rw [sB_size]; exact hk
  show (if h : k < (sB l).size then some (Value.int .u8 (((sB l)[k]).toNat : Int), H) else none) = _
  rw [dif_pos hk2, sB_get l h k hk hk2, e]
/-- a part of a text -/
theorem sB_ext (l : List Int) (i h : Nat) : (sB l).extract i h = sB ((l.take h).drop i) := by
  apply ByteArray.ext
  rw [ByteArray.data_extract]
  apply Array.ext'
  simp [sB, List.map_drop, List.map_take, List.drop_take]

/-! ### parts of a slice -/
/-! ### rows that are owned, all over -/
/-! ### maps with texts as keys -/
def kvC (l : List (List Int × Value)) : List Value := l.flatMap fun p => [.string (sB p.1), p.2]
def kvGet (s : List Int) : List (List Int × Value) → Nat → Option (Nat × Value)
  | [], _ => none
  | p :: r, i => if s = p.1 then some (i, p.2) else kvGet s r (i + 1)
def kvPut (s : List Int) (v : Value) : List (List Int × Value) → List (List Int × Value)
  | [] => [(s, v)]
  | p :: r => if s = p.1 then (s, v) :: r else p :: kvPut s v r
theorem kvC_cons (p : List Int × Value) (l : List (List Int × Value)) : kvC (p :: l) = .string (sB p.1) :: p.2 :: kvC l := rfl
theorem mfind_kv (s : List Int) (hs : Oct s) : ∀ (l : List (List Int × Value)) (i : Nat), (∀ p ∈ l, Oct p.1) → mfind (sB s) (kvC l) i = some (kvGet s l i)
  | [], i, _ => rfl
  | p :: l, i, h => by
    rw [kvC_cons]
    unfold mfind kvGet
    rw [sB_beq hs (h p (by simp))]
    by_cases e : s = p.1
    · rw [if_pos e, if_pos (by simpa using e)]
    · rw [if_neg e, if_neg (by simpa using e)]
      exact mfind_kv s hs l (i + 1) fun q hq => h q (by simp [hq])
theorem kvGet_shift (s : List Int) : ∀ (l : List (List Int × Value)) (i j : Nat) (v : Value), kvGet s l (i + 1) = some (j, v) → ∃ j', j = j' + 1 ∧ kvGet s l i = some (j', v)
  | [], i, j, v, h => by cases h
  | p :: l, i, j, v, h => by
    unfold kvGet at h ⊢
    by_cases e : s = p.1
    · rw [if_pos e] at h ⊢
      cases h; exact ⟨i, rfl, rfl⟩
    · rw [if_neg e] at h ⊢
      exact kvGet_shift s l (i + 1) j v h
theorem kvPut_set (s : List Int) (u : Value) : ∀ (l : List (List Int × Value)) (j : Nat) (v : Value), kvGet s l 0 = some (j, v) → (kvC l).set (2 * j + 1) u = kvC (kvPut s u l)
  | [], j, v, h => by cases h
  | p :: l, j, v, h => by
    unfold kvGet at h
    unfold kvPut
    by_cases e : s = p.1
    · rw [if_pos e] at h ⊢
      cases h
      rw [kvC_cons, kvC_cons, e]; rfl
    · rw [if_neg e] at h ⊢
      obtain ⟨j', rfl, h'⟩ := kvGet_shift s l 0 j v h
      rw [kvC_cons, kvC_cons, ← kvPut_set s u l j' v h']
      rfl
theorem kvPut_app (s : List Int) (u : Value) : ∀ (l : List (List Int × Value)) (i : Nat), kvGet s l i = none → kvPut s u l = l ++ [(s, u)]
  | [], i, h => rfl
  | p :: l, i, h => by
    unfold kvGet at h
    unfold kvPut
    by_cases e : s = p.1
    · rw [if_pos e] at h; cases h
    · rw [if_neg e] at h ⊢
      rw [kvPut_app s u l (i + 1) h]; rfl
def KV (H : AH) (M : Nat) (l : List (List Int × Value)) : Prop := H.get M = some ⟨kvC l, 0, false, false⟩ ∧ M < H.n ∧ ∀ p ∈ l, Oct p.1
theorem KV.new (H : AH) : KV (H.push ⟨[], 0, false, false⟩) H.n [] := ⟨by rw [AH.get_push, if_pos rfl]; rfl, Nat.lt_succ_self _, fun p h => by simp at h⟩
theorem KV.ext {H H' : AH} {M : Nat} {l : List (List Int × Value)} (h : KV H M l) (x : HExt H H') : KV H' M l := ⟨(x.2 M h.2.1).trans h.1, Nat.lt_of_lt_of_le h.2.1 x.1, h.2.2⟩
def kvRes (o : Option (Nat × Value)) (z : Value) (c : Bool) : Value :=
  match o with
  | some p => lkRes p.2 true c
  | none => lkRes z false c
theorem KV.get {H : AH} {M : Nat} {l : List (List Int × Value)} (h : KV H M l) (s : List Int) (hs : Oct s) (z : Value) (c : Bool) : xmlk H z c (.map (some M)) (.string (sB s)) = some (kvRes (kvGet s l 0) z c, H) := by
  show (match H.get M with | some blk => (match mfind (sB s) blk.cells 0 with | some (some p) => some (lkRes p.2 true c, H) | some none => some (lkRes z false c, H) | none => none) | none => none) = _
  rw [h.1]
  simp only [mfind_kv s hs l 0 h.2.2]
  cases kvGet s l 0 <;> rfl
theorem KV.put {H : AH} {M : Nat} {l : List (List Int × Value)} (h : KV H M l) (s : List Int) (hs : Oct s) (u : Value) : xmup H (.map (some M)) (.string (sB s)) u = some (undef, H.set M ⟨kvC (kvPut s u l), 0, false, false⟩) ∧ KV (H.set M ⟨kvC (kvPut s u l), 0, false, false⟩) M (kvPut s u l) := by
  have ho : ∀ p ∈ kvPut s u l, Oct p.1 := by
    have : ∀ l : List (List Int × Value), (∀ p ∈ l, Oct p.1) → ∀ p ∈ kvPut s u l, Oct p.1 := by
      intro l
      induction l with
      | nil => intro _ p hp; simp [kvPut] at hp; subst hp; exact hs
      | cons q l ih =>
        intro hl p hp
        unfold kvPut at hp
        split at hp
        · rcases List.mem_cons.1 hp with rfl | hp
          · exact hs
          · exact hl p (by simp [hp])
        · rcases List.mem_cons.1 hp with rfl | hp
          · exact hl p (by simp)
          · exact ih (fun q hq => hl q (by simp [hq])) p hp
    exact this l h.2.2
  refine ⟨?_, by rw [AH.get_set, if_pos rfl], h.2.1, ho⟩
  show (match H.get M with | some blk => (match mfind (sB s) blk.cells 0 with | some (some p) => some (undef, H.set M { blk with cells := blk.cells.set (2 * p.1 + 1) u }) | some none => some (undef, H.set M { blk with cells := blk.cells ++ [Value.string (sB s), u] }) | none => none) | none => none) = _
  rw [h.1]
  simp only [mfind_kv s hs l 0 h.2.2]
  cases hg : kvGet s l 0 with
  | none =>
    rw [kvPut_app s u l 0 hg]
    have : kvC (l ++ [(s, u)]) = kvC l ++ [Value.string (sB s), u] := by simp [kvC]
    rw [this]
  | some p =>
    obtain ⟨j, v⟩ := p
    rw [← kvPut_set s u l j v hg]

/-! ### truths that differ -/
end Go.Det

set_option linter.unusedSimpArgs false
set_option linter.unusedVariables false
namespace Go.Det

/-! ### tables that are laid: package variables that hold numbers -/
structure StartG (G : Nat) (w : World) (m : Mp) (H : AH) : Prop where
  st : Start G w m H
  n : H.n = G
  fl : ∀ B blk, H.get B = some blk → ∀ v ∈ blk.cells, ∃ k n, v = Value.int k n
  em : ∀ B, B < G → H.get B = none → m.f B = some ⟨B, 0, 0, 0, 1, false, true⟩
theorem StartG.first (G : Nat) (w : World) : StartG G w (m0 G) ⟨G, .leaf⟩ :=
  ⟨Start.first G w, rfl, fun B blk h => absurd (show (none : Option Blk) = some blk from h) (by simp), fun B hB _ => by simp [m0, hB]⟩
theorem StartG.lay {G : Nat} {w : World} {m : Mp} {H : AH} (h0 : StartG G w m H) (g : Nat) (hg : g < G) (hm : H.get g = none) (cs : List Value) (c : Array Value) (t : TypeId) (fz : Nat × Nat)
    (hw : w.heap[g]? = some (.cells c t fz)) (hc : c.toList = cs) (hf : ∀ v ∈ cs, ∃ k n, v = Value.int k n) :
    StartG G w (mput m g ⟨g, 0, c.size, c.size, 1, false, true⟩) (H.set g ⟨cs, 1, false, true⟩) := by
  have h := h0.st
  have hgn : g < H.n := Nat.lt_of_lt_of_le hg h.hr.glob.1
  have hget : ∀ B, (H.set g ⟨cs, 1, false, true⟩).get B = if B = g then some ⟨cs, 1, false, true⟩ else H.get B := fun B => AH.get_set _ _ _ _
  have hlen : c.size = cs.length := by rw [← hc]; simp
  refine ⟨⟨{ below := h.hr.below, bs := h.hr.bs, live := ?_, maps := fun B b hb => h.nomaps (Q := fun _ _ => _) B b hb, hid := fun B b hb => h.nohid (Q := fun _ _ => _) B b hb, dom := ?_, apart := ?_, glob := ?_ }, ?_, h.ng, h.nh⟩, h0.n, ?_, ?_⟩
  · intro B b hb
    rw [hget] at hb
    split at hb
    · rename_i hB
      simp at hb; subst hb; subst hB
      refine .inl ⟨⟨B, 0, c.size, c.size, 1, false, true⟩, by simp [mput], { kn := hlen, sz := rfl, opn := rfl, ro := rfl, at_ := ⟨c, t, fz, hw, rfl, by simp, ?_, by simp⟩ }⟩
      intro i v hi
      obtain ⟨k, n, rfl⟩ := hf v (List.mem_of_getElem? hi)
      refine ⟨_, ?_, .int k n⟩
      rw [← hc] at hi
      simpa using hi
    · rename_i hB
      obtain ⟨e', he', hk⟩ := h.live hb
      refine .inl ⟨e', by simp [mput, hB, he'], { kn := hk.kn, sz := hk.sz, opn := hk.opn, ro := hk.ro, at_ := ?_ }⟩
      obtain ⟨c', t', fz', k1, k2, k3, k4, k5⟩ := hk.at_
      refine ⟨c', t', fz', k1, k2, k3, ?_, k5⟩
      intro i v hi
      obtain ⟨v', g1, g2⟩ := k4 i v hi
      obtain ⟨k, n, rfl⟩ := h0.fl B b hb v (List.mem_of_getElem? hi)
      cases g2
      exact ⟨_, g1, .int k n⟩
  · intro B e' he
    simp only [mput] at he
    split at he
    · rename_i hB
      simp at he; subst he; subst hB
      exact ⟨by simpa using hgn, Nat.one_pos⟩
    · have := h.hr.dom B e' he
      exact ⟨by simpa using this.1, this.2⟩
  · intro B B' b b' e1 e2 h1 h2 h3 h4 hne hrf
    exfalso
    rw [hget] at h1
    split at h1
    · rename_i hB
      simp at h1; subst h1; subst hB
      simp [mput] at h3; subst h3
      simp at hrf
    · rename_i hB
      simp only [mput, hB, if_false] at h3
      have := h.ro B b h1
      obtain ⟨e', he', hk⟩ := h.live h1
      rw [h3] at he'; cases he'
      rw [hk.ro, this] at hrf; simp at hrf
  · refine ⟨by simpa using h.hr.glob.1, fun q hq => ?_⟩
    by_cases hB : q = g
    · subst hB; exact ⟨⟨q, 0, c.size, c.size, 1, false, true⟩, by simp [mput], rfl, rfl⟩
    · obtain ⟨e', he', h2⟩ := h.hr.glob.2 q hq
      exact ⟨e', by simp [mput, hB, he'], h2⟩
  · intro B b hb
    rw [hget] at hb
    split at hb
    · simp at hb; subst hb; rfl
    · exact h.ro B b hb
  · intro B b hb
    rw [hget] at hb
    split at hb
    · simp at hb; subst hb; exact hf
    · exact h0.fl B b hb
  · intro B hB hb
    rw [hget] at hb
    split at hb
    · cases hb
    · rename_i hne
      show (if B = g then _ else m.f B) = _
      rw [if_neg hne]; exact h0.em B hB hb
end Go.Det

set_option linter.unusedSimpArgs false
set_option linter.unusedVariables false
namespace Go.Det

/-! ### decimal digits -/
/-- the value of digits -/
def valD (n : Nat) (l : List Int) : Nat := l.foldl (fun n c => n * 10 + (c - 48).toNat) n
end Go.Det

set_option linter.unusedSimpArgs false
set_option linter.unusedVariables false
namespace Go.Det

/-! ### what the condition 'laid' tells of a table of numbers -/
end Go.Det

set_option linter.unusedSimpArgs false
set_option linter.unusedVariables false
namespace Go.Det
variable {P : Program} {T : XTab}

/-! ### parts of texts, slices of arrays -/
def pSsl (a : Value) (lo hi : Option Value) (H : AH) : Option (Value × AH) :=
  match a with
  | .string s => (natOf s.size hi).bind fun h => (natOf 0 lo).bind fun l => if l ≤ h ∧ h ≤ s.size then some (.string (s.extract l h), H) else none
  | _ => none
theorem natOf_some {d n : Nat} {v : Value} (h : natOf d (some v) = some n) : ∃ k, v = .int k (.ofNat n) := by
  unfold natOf at h
  split at h
  · rename_i h1; cases h1
  · rename_i k m h1; cases h1; cases h; exact ⟨k, rfl⟩
  · cases h
theorem getD_some' {fr : Fr} {x : Operand} {v : Value} (h : (ev fr x).getD undef = v) (hv : v ≠ undef) : ev fr x = some v := by
  cases he : ev fr x with
  | none => rw [he] at h; exact absurd h.symm hv
  | some w => rw [he] at h; exact congrArg some h
theorem sliceBound_ok (k : IntKind) (n y : Nat) (c : BoundsCode) (h : n ≤ y) : pureRun P (Instr.sliceBound (.int k (.ofNat n)) y c) = some n := by
  have h1 : (0 : Int) ≤ Int.ofNat n ∧ Int.ofNat n ≤ (y : Int) := ⟨Int.natCast_nonneg n, Int.ofNat_le.2 h⟩
  simp only [Instr.sliceBound, asIntOf, pureRun_bind, pureRun_pure, Option.bind_some]
  rw [if_pos h1, pureRun_pure]; rfl
theorem sliceBound_ok' (k : IntKind) (n y : Nat) (c : BoundsCode) (h : n ≤ y) : pureRun P (Instr.sliceBound (.int k ((n : Nat) : Int)) y c) = some n := sliceBound_ok k n y c h
theorem flat_ssl {fr : Fr} {H : AH} {t t' : TypeId} (hu : P.underlying t = some .string) (x : Operand) (lo hi : Option Operand) (r : Value × AH)
    (hr : pSsl ((ev fr x).getD undef) (lo.map fun x => (ev fr x).getD undef) (hi.map fun x => (ev fr x).getD undef) H = some r) : xop P fr H (.flat (.slice t x lo hi none) t') = some r := by
  unfold pSsl at hr
  split at hr
  · rename_i s hs
    have hx := getD_some' hs (by simp [undef])
    obtain ⟨h, h1, hr⟩ := Option.bind_eq_some_iff.1 hr
    obtain ⟨l, h2, hr⟩ := Option.bind_eq_some_iff.1 hr
    split at hr
    · rename_i hle
      obtain ⟨a1, a2⟩ := hle
      cases hr
      cases lo with
      | none =>
        cases hi with
        | none =>
          cases h1; cases h2
          refine flat_eq ?_ ?_ rfl
          · simp [Op.operands, evFlat, hx, flatD]
          · simp only [execOp, flatOper, hx, Option.getD_some, Option.map_none, Instr.sliceAt, pureRun_bind, pureRun_underlying hu, Option.bind_some, Instr.slice, Instr.sliceBounds, pureRun_pure, pureRun_map]
            simp [pureRun_bind, pureRun_pure, pureRun_map]
        | some j =>
          obtain ⟨k, hj⟩ := natOf_some h1
          have ej := getD_some' hj (by simp [undef])
          cases h2
          refine flat_eq ?_ ?_ rfl
          · simp [Op.operands, evFlat, hx, ej, flatD]
          · simp only [execOp, flatOper, hx, ej, Option.getD_some, Option.map_none, Option.map_some, Instr.sliceAt, pureRun_bind, pureRun_underlying hu, Option.bind_some, Instr.slice, Instr.sliceBounds, pureRun_pure, pureRun_map, sliceBound_ok k h s.size _ a2]
            simp [pureRun_bind, pureRun_pure, pureRun_map, sliceBound_ok' k h s.size _ a2]
      | some i =>
        obtain ⟨k', hi'⟩ := natOf_some h2
        have ei := getD_some' hi' (by simp [undef])
        cases hi with
        | none =>
          cases h1
          refine flat_eq ?_ ?_ rfl
          · simp [Op.operands, evFlat, hx, ei, flatD]
          · simp only [execOp, flatOper, hx, ei, Option.getD_some, Option.map_none, Option.map_some, Instr.sliceAt, pureRun_bind, pureRun_underlying hu, Option.bind_some, Instr.slice, Instr.sliceBounds, pureRun_pure, pureRun_map, sliceBound_ok k' l s.size _ a1]
            simp [pureRun_bind, pureRun_pure, pureRun_map, sliceBound_ok' k' l s.size _ a1]
        | some j =>
          obtain ⟨k, hj⟩ := natOf_some h1
          have ej := getD_some' hj (by simp [undef])
          refine flat_eq ?_ ?_ rfl
          · simp [Op.operands, evFlat, hx, ei, ej, flatD]
          · simp only [execOp, flatOper, hx, ei, ej, Option.getD_some, Option.map_none, Option.map_some, Instr.sliceAt, pureRun_bind, pureRun_underlying hu, Option.bind_some, Instr.slice, Instr.sliceBounds, pureRun_pure, pureRun_map, sliceBound_ok k h s.size _ a2, sliceBound_ok k' l h _ a1]
            simp [pureRun_bind, pureRun_pure, pureRun_map, sliceBound_ok' k h s.size _ a2, sliceBound_ok' k' l h _ a1]
    · cases hr
  · cases hr
theorem v_ssl {fr : Fr} {H : AH} {t : TypeId} (hu : P.underlying t = some .string) (dd : Option Nat) (x : Operand) (lo hi : Option Operand) (t' : TypeId) : xval P (xc P T) ⟨dd, .flat (.slice t x lo hi none) t', none⟩ fr H =
    match pSsl ((ev fr x).getD undef) (lo.map fun x => (ev fr x).getD undef) (hi.map fun x => (ev fr x).getD undef) H with | some r => some r | none => xop P fr H (.flat (.slice t x lo hi none) t') := by
  rw [xval_op dd _ fr H rfl]
  split
  · rename_i r hr
    exact flat_ssl hu x lo hi r hr
  · rfl
theorem sB_extract (l : List Int) (i j : Nat) : (sB l).extract i j = sB ((l.take j).drop i) := by
  apply ByteArray.ext
  rw [ByteArray.data_extract]
  apply Array.ext'
  rw [Array.toList_extract]
  show List.extract (sB l).data.toList i j = (sB ((l.take j).drop i)).data.toList
  rw [sB_toList, sB_toList, List.extract_eq_take_drop, List.map_drop, List.map_take, List.drop_take]
theorem pSsl_lo (l : List Int) (i : Nat) (a : Int) (k : IntKind) (H : AH) (hi : a = (i : Int)) (h1 : i ≤ l.length) : pSsl (.string (sB l)) (some (.int k a)) none H = some (.string (sB (l.drop i)), H) := by
  subst hi
  show (if i ≤ (sB l).size ∧ (sB l).size ≤ (sB l).size then some (Value.string ((sB l).extract i (sB l).size), H) else none) = _
  rw [sB_size, if_pos ⟨h1, Nat.le_refl _⟩, sB_extract, List.take_length]
theorem pSsl_hi (l : List Int) (j : Nat) (b : Int) (k : IntKind) (H : AH) (hj : b = (j : Int)) (h1 : j ≤ l.length) : pSsl (.string (sB l)) none (some (.int k b)) H = some (.string (sB (l.take j)), H) := by
  subst hj
  show (if 0 ≤ j ∧ j ≤ (sB l).size then some (Value.string ((sB l).extract 0 j), H) else none) = _
  rw [sB_size, if_pos ⟨Nat.zero_le _, h1⟩, sB_extract, List.drop_zero]
end Go.Det

set_option linter.unusedSimpArgs false
set_option linter.unusedVariables false
namespace Go.Det

/-! ### functions that are known by a contract: they leave all blocks as they are -/
theorem HRel.grow {G base : Nat} {W0 : World} {m : Mp} {H : AH} {w w' : World} (h : HRel G base W0 m H w) (b : Go.RowKit.Below w.heap.size w w') : HRel G base W0 m H w' ∧ Fut m H w m H w' := by
  have hb : Go.RowKit.Below base w w' := ⟨b.os, b.tape, b.output, b.size, fun k hk => b.block k (Nat.lt_of_lt_of_le hk h.bs)⟩
  refine ⟨{ below := h.below.trans hb, bs := Nat.le_trans h.bs b.size, live := ?_, maps := ?_, hid := fun k c hk2 => let ⟨a1, a2, a3, a4⟩ := h.hid k c hk2; ⟨a1, Nat.lt_of_lt_of_le a2 b.size, a3, a4⟩, dom := h.dom, apart := h.apart, glob := h.glob }, ?_⟩
  · intro B blk hB
    rcases h.live B blk hB with ⟨e, he, hk⟩ | hg
    · refine .inl ⟨e, he, { kn := hk.kn, sz := hk.sz, opn := hk.opn, ro := hk.ro, at_ := ?_ }⟩
      obtain ⟨c, t, fz, k1, k2, k3, k4, k5⟩ := hk.at_
      exact ⟨c, t, fz, by rw [b.block _ (h.b_lt hB he)]; exact k1, k2, k3, k4, k5⟩
    · exact .inr hg
  · intro B k hg
    obtain ⟨a1, a2, a3, a4, ap, al, blk, a5, a6⟩ := h.maps B k hg
    exact ⟨a1, a2, a3, a4, ap, Nat.lt_of_lt_of_le al b.size, blk, a5, a6.keep hg (fun k hD => b.block k (h.objlt hD)) (.refl m)⟩
  · exact ⟨.refl m, b.size, Nat.le_refl _, fun k hk hn => ⟨b.block k hk, hn⟩, fun _ _ => ⟨rfl, id⟩, fun _ _ hn => hn⟩
/-- the cell of a table -/
theorem HRel.gcell {G base : Nat} {W0 : World} {m : Mp} {H : AH} {w : World} (h : HRel G base W0 m H w) (g : Nat) (hg : g < G) {blk : Blk} (hb : H.get g = some blk) (i : Nat) (k : IntKind) (n : Int) (hi : blk.cells[i]? = some (.int k n)) : w.cell? ⟨g, i, none⟩ = some (.int k n) := by
  obtain ⟨e, he, h1, h2⟩ := h.glob.2 g hg
  obtain ⟨v', h3, h4⟩ := h.cell hb hi he
  rw [h1, h2, Nat.zero_add] at h3
  cases h4
  exact h3
/-- an answer without an address -/
theorem CallOk.of_below {P : Program} {f : FuncId} {args : List Value} {H : AH} {v : Value} (hargs : ∀ a ∈ args, flatD 4 a = true) (hv : flatD 4 v = true)
    (hc : ∀ (base : Nat) (W0 : World) (m : Mp) (w : World), HR P base W0 m H w → Calls P f args.toArray w fun e w' => e = .returned v ∧ Go.RowKit.Below w.heap.size w w') : CallOk P f args H v H := by
  intro base W0 m w args' hr hl
  have ha : args' = args := by
    refine List.ext_getElem? fun i => ?_
    cases hi : args[i]? with
    | none =>
      have : args.length ≤ i := by simpa using hi
      have hlen := hl.1
      rw [List.getElem?_eq_none (by omega)]
    | some a =>
      obtain ⟨b, hb, hr2⟩ := hl.2 i a hi
      rw [hb]
      rw [flatD_eq 4 _ _ (hargs a (List.mem_of_getElem? hi)) hr2]
  subst ha
  refine (hc base W0 m w hr).mono ?_
  rintro e w' ⟨rfl, hb⟩
  obtain ⟨h1, h2⟩ := HRel.grow hr hb
  exact ⟨m, v, rfl, h1, h2, flatD_refl m 4 v hv⟩
end Go.Det

set_option linter.unusedSimpArgs false
set_option linter.unusedVariables false
namespace Go.Det

/-! ### functions that are known by a contract: they answer with a row of their own -/
theorem LRel.flat (m : Mp) {zs : List Value} (hz : ∀ z ∈ zs, flatD 4 z = true) : LRel m zs zs :=
  ⟨rfl, fun i v hi => ⟨v, hi, flatD_refl m 4 v (hz v (List.mem_of_getElem? hi))⟩⟩
theorem HRel.notAll {G base : Nat} {W0 : World} {m : Mp} {H : AH} {w : World} (h : HRel G base W0 m H w) {k : Nat} (hk : w.heap.size ≤ k) : ¬ InAll m H k := by
  rintro (⟨B, b, e, q1, q2, q3⟩ | hB)
  · have := h.b_lt q1 q2
    omega
  · have := h.objlt hB
    omega
/-- a new row: the machine has it at k, the run of ours as its next block -/
theorem HRel.row {G base : Nat} {W0 : World} {m : Mp} {H : AH} {w w' : World} (h : HRel G base W0 m H w) (b : Go.RowKit.Below w.heap.size w w') {k : Nat} (hk : w.heap.size ≤ k) {c : Array Value} {ty : TypeId} (hw : w'.heap[k]? = some (.cells c ty (0, 0)))
    (zs : List Value) (sz : Nat) (hsz : 0 < sz) (hl : LRel m zs c.toList) :
    HRel G base W0 (m.set H.n ⟨k, 0, c.size, zs.length, sz, false, false⟩) (H.push ⟨zs, sz, false, false⟩) w' ∧ Fut m H w (m.set H.n ⟨k, 0, c.size, zs.length, sz, false, false⟩) (H.push ⟨zs, sz, false, false⟩) w' := by
  obtain ⟨h1, f1⟩ := HRel.grow h b
  have hn : ¬ InAll m H k := HRel.notAll h hk
  exact ⟨HRel.adopt h1 ⟨zs, sz, false, false⟩ hw (Nat.le_trans h.bs hk) hn hsz rfl rfl hl rfl, Fut.adopt f1 h1 ⟨zs, sz, false, false⟩ _ hk⟩
theorem flat_args {m : Mp} {args args' : List Value} (hargs : ∀ a ∈ args, flatD 4 a = true) (hl : LRel m args args') : args' = args := by
  refine List.ext_getElem? fun i => ?_
  cases hi : args[i]? with
  | none =>
    have : args.length ≤ i := by simpa using hi
    have hlen := hl.1
    rw [List.getElem?_eq_none (by omega)]
  | some a =>
    obtain ⟨b, hb, hr2⟩ := hl.2 i a hi
    rw [hb]
    rw [flatD_eq 4 _ _ (hargs a (List.mem_of_getElem? hi)) hr2]
theorem CallOk.of_row {P : Program} {f : FuncId} {args : List Value} {H : AH} {zs : List Value} (hargs : ∀ a ∈ args, flatD 4 a = true) (hz : ∀ z ∈ zs, flatD 4 z = true)
    (hc : ∀ (base : Nat) (W0 : World) (m : Mp) (w : World), HR P base W0 m H w → Calls P f args.toArray w fun e w' => ∃ k c ty, e = .returned (.slice (some ⟨k, 0, none⟩) zs.length zs.length) ∧ w.heap.size ≤ k ∧ w'.heap[k]? = some (.cells c ty (0, 0)) ∧ c.toList = zs ∧ Go.RowKit.Below w.heap.size w w') :
    CallOk P f args H (.slice (some ⟨H.n, 0, none⟩) zs.length zs.length) (H.push ⟨zs, 1, false, false⟩) := by
  intro base W0 m w args' hr hl
  obtain rfl := flat_args hargs hl
  refine (hc base W0 m w hr).mono ?_
  rintro e w' ⟨k, c, ty, rfl, hk, hw, hcz, hb⟩
  obtain ⟨h1, h2⟩ := HRel.row hr hb hk hw zs 1 Nat.one_pos (by rw [hcz]; exact LRel.flat m hz)
  have hs : c.size = zs.length := by rw [← hcz]; simp
  exact ⟨_, _, rfl, h1, h2, vrel_sl_at (z := 1) (by simp [Mp.set, hs]) (Nat.le_refl _)⟩
end Go.Det

set_option linter.unusedSimpArgs false
set_option linter.unusedVariables false
namespace Go.Det

/-! ### a struct put into an owned row -/
variable {α : Type} {S : LS α}
/-! ### what an insertion sort does -/
end Go.Det

set_option linter.unusedSimpArgs false
set_option linter.unusedVariables false
namespace Go.Det

/-! ### builders of texts: one step of one builder -/
/-- what a step of a builder in block b with the row g leaves -/
structure BStep (b : Nat) (g : Option Nat) (w w' : World) : Prop where
  os : w'.os = w.os
  tape : w'.tape = w.tape
  output : w'.output = w.output
  size : w.heap.size ≤ w'.heap.size
  block : ∀ k, k < w.heap.size → k ≠ b → some k ≠ g → w'.heap[k]? = w.heap[k]?
def Mp.hide (m : Mp) (g : Option Nat) (b : Nat) : Mp := ⟨m.f, m.g, fun k => if g = some k then some b else m.h k⟩
theorem HRel.objStep {G base : Nat} {W0 : World} {m : Mp} {H : AH} {w w' : World} (h : HRel G base W0 m H w) {B b : Nat} {blk0 blk1 : Blk} (hg : m.g B = some b) (hb : H.get B = some blk0) {g g' : Option Nat} (hgo : ∀ k, g = some k → m.h k = some b)
    (st : BStep b g w w') (hg' : ∀ k, g' = some k → g = some k ∨ (w.heap.size ≤ k ∧ k < w'.heap.size)) (ho : ObjAt (m.hide g' b) base blk1 w' b) :
    HRel G base W0 (m.hide g' b) (H.set B blk1) w' ∧ Fut m H w (m.hide g' b) (H.set B blk1) w' := by
  obtain ⟨a1, a2, a3, a4, ap, al, _⟩ := h.maps B b hg
  have hext : m.Ext (m.hide g' b) := ⟨fun _ _ h => h, fun _ _ h => h, fun k c hk => by
    show (if g' = some k then some b else m.h k) = some c
    by_cases e : g' = some k
    · rw [if_pos e]
      rcases hg' k e with h1 | h1
      · rw [hgo k h1] at hk; exact hk
      · have := (h.hid k c hk).2.1; omega
    · rw [if_neg e]; exact hk⟩
  have hhid : ∀ k c, (m.hide g' b).h k = some c → m.h k = some c ∨ (c = b ∧ w.heap.size ≤ k ∧ k < w'.heap.size) := fun k c hk => by
    have hk' : (if g' = some k then some b else m.h k) = some c := hk
    by_cases e : g' = some k
    · rw [if_pos e] at hk'
      cases hk'
      rcases hg' k e with h1 | h1
      · exact .inl (hgo k h1)
      · exact .inr ⟨rfl, h1⟩
    · rw [if_neg e] at hk'; exact .inl hk'
  have hgb : ∀ k, g = some k → k ≠ b := fun k hk e => by
    subst e
    exact (h.hid k k (hgo k hk)).2.2.2 B hg
  have same : ∀ k, k < w.heap.size → k ≠ b → m.h k ≠ some b → w'.heap[k]? = w.heap[k]? := fun k hk h1 h2 => st.block k hk h1 fun e => h2 (hgo k e.symm)
  have hfB : ∀ C e, m.f C = some e → C ≠ B := fun C e he x => by subst x; rw [a1] at he; cases he
  have hget : ∀ C bl, (H.set B blk1).get C = some bl → C ≠ B → H.get C = some bl := by
    intro C bl hC hCB
    rw [AH.get_set, if_neg hCB] at hC; exact hC
  have hcell : ∀ C bl e, H.get C = some bl → m.f C = some e → w'.heap[e.b]? = w.heap[e.b]? := fun C bl e hC he => same e.b (h.b_lt hC he) (h.objne (.inl ⟨B, hg⟩) hC he) (fun hx => h.objne (.inr ⟨b, hx⟩) hC he rfl)
  refine ⟨{ below := ⟨st.os.trans h.below.os, st.tape.trans h.below.tape, st.output.trans h.below.output, Nat.le_trans h.below.size st.size, fun k hk => ?_⟩, bs := Nat.le_trans h.bs st.size, live := ?_, maps := ?_, hid := ?_, dom := h.dom, apart := ?_, glob := h.glob }, ?_⟩
  · rw [same k (Nat.lt_of_lt_of_le hk h.bs) (by omega) (fun hx => by have := (h.hid k b hx).1; omega)]
    exact h.below.block k hk
  · intro C bl hC
    by_cases hCB : C = B
    · exact .inr ⟨b, by rw [hCB]; exact hg⟩
    · have hC' := hget C bl hC hCB
      rcases h.live C bl hC' with ⟨e, he, hk⟩ | hx
      · obtain ⟨c', t', fz', hw', h1, h2, h3, h4⟩ := hk.at_
        exact .inl ⟨e, he, { kn := hk.kn, sz := hk.sz, opn := hk.opn, ro := hk.ro, at_ := ⟨c', t', fz', by rw [hcell C bl e hC' he]; exact hw', h1, h2, fun i v hi => let ⟨v', x, y⟩ := h3 i v hi; ⟨v', x, y.mono hext⟩, h4⟩ }⟩
      · exact .inr hx
  · intro C d hC0
    have hC : m.g C = some d := hC0
    obtain ⟨b1, b2, b3, b4, bp, bl, blk3, b5, b6⟩ := h.maps C d hC
    have bp' : ∀ D bl e2, (H.set B blk1).get D = some bl → m.f D = some e2 → e2.b ≠ d := fun D bl e2 hD he2 => bp D bl e2 (hget D bl hD (hfB D e2 he2)) he2
    by_cases hCB : C = B
    · subst hCB
      rw [hg] at hC; cases hC
      exact ⟨b1, b2, b3, b4, bp', Nat.lt_of_lt_of_le bl st.size, blk1, by rw [AH.get_set, if_pos rfl], ho⟩
    · have hdb : d ≠ b := fun x => by subst x; exact hCB (a4 C hC)
      have hdh : m.h d ≠ some b := fun hx => (h.hid d b hx).2.2.2 C hC
      refine ⟨b1, b2, b3, b4, bp', Nat.lt_of_lt_of_le bl st.size, blk3, by rw [AH.get_set, if_neg hCB]; exact b5, ?_⟩
      rcases b6 with ⟨z0, es3, cl3, z1, z2⟩ | ⟨z0, T, e0, p, v, bs, z1, z2, z3, z4⟩ | z0
      · exact .inl ⟨z0, es3, cl3, by rw [same d bl hdb hdh]; exact z1, z2.mono hext⟩
      · refine .inr (.inl ⟨z0, T, e0, p, v, bs, z1, by rw [same d bl hdb hdh]; exact z2, z3, ?_⟩)
        rcases z4 with z4 | ⟨g2, cap, cur, k1, k2, k3, k4, k5, k6, k7, k8, k9⟩
        · exact .inl z4
        · obtain ⟨y1, y2, y3, y4⟩ := h.hid g2 d k9
          exact .inr ⟨g2, cap, cur, k1, k2, by rw [same g2 y2 (fun x => by subst x; exact y4 B hg) (fun hx => by rw [k9] at hx; cases hx; exact hdb rfl)]; exact k3, k4, k5, k6, k7, k8, hext.he g2 d k9⟩
      · exact .inr (.inr z0)
  · intro k c hk
    rcases hhid k c hk with hk | ⟨rfl, k1, k2⟩
    · obtain ⟨z1, z2, z3, z4⟩ := h.hid k c hk
      exact ⟨z1, Nat.lt_of_lt_of_le z2 st.size, fun D bl e2 hD he2 => z3 D bl e2 (hget D bl hD (hfB D e2 he2)) he2, z4⟩
    · refine ⟨Nat.le_trans h.bs k1, k2, fun D bl e2 hD he2 => ?_, fun C hC => ?_⟩
      · have := h.b_lt (hget D bl hD (hfB D e2 he2)) he2
        omega
      · have := h.objlt (.inl ⟨C, hC⟩)
        omega
  · intro C C' b1 b2 e e' g1 g2 he he' hcc hro
    exact h.apart C C' b1 b2 e e' (hget C b1 g1 (hfB C e he)) (hget C' b2 g2 (hfB C' e' he')) he he' hcc hro
  · have own' : ∀ k, k < w.heap.size → OwnK (m.hide g' b) k → OwnK m k := by
      rintro k hk (hx | ⟨c, hx⟩)
      · exact .inl hx
      · rcases hhid k c hx with hx | ⟨_, h1, _⟩
        · exact .inr ⟨c, hx⟩
        · omega
    refine ⟨hext, st.size, Nat.le_refl _, fun k hk hn => ⟨same k hk (fun x => hn (.inr (.inl ⟨B, by rw [x]; exact hg⟩))) (fun hx => hn (.inr (.inr ⟨b, hx⟩))), fun hx => hn ?_⟩, fun C hC => ⟨rfl, fun x => ?_⟩, fun k hk hn => fun hx => hn ?_⟩
    · rcases hx with ⟨C, bl, e, g1, g2, g3⟩ | hx
      · exact .inl ⟨C, bl, e, hget C bl g1 (hfB C e g2), g2, g3⟩
      · exact .inr (own' k hk hx)
    · rw [AH.get_set]
      by_cases hCB : C = B
      · subst hCB; rw [hb] at x; cases x
      · rw [if_neg hCB]; exact x
    · rcases hx with ⟨C, bl, e, g1, g2, g3⟩ | hx
      · exact .inl ⟨C, bl, e, hget C bl g1 (hfB C e g2), g2, g3⟩
      · exact .inr (own' k hk hx)

end Go.Det
