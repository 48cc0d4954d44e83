/- What runs of the program's functions compute, on a heap of the run's own, and that the machine does what such a run says: the conditions stand in each theorem. -/
import Derived.Test.YtejedmocjdcdgaaTpM2
set_option linter.unusedSimpArgs false
set_option linter.unusedVariables false
namespace Go.Det

/-! ### slices of structs -/
structure LS (α : Type) where
  sz : Nat
  f : α → List Value
  len : ∀ a, (f a).length = sz
  pos : 1 ≤ sz
def LS.cells {α : Type} (S : LS α) (l : List α) : List Value := l.flatMap S.f
variable {α : Type} {S : LS α} {H : AH} {v : Value}
theorem LS.cells_app (l r : List α) : S.cells (l ++ r) = S.cells l ++ S.cells r := by simp [LS.cells]
theorem LS.cells_len (l : List α) : (S.cells l).length = l.length * S.sz := by
  induction l with
  | nil => simp [LS.cells]
  | cons a l ih =>
    have : S.cells (a :: l) = S.f a ++ S.cells l := by simp [LS.cells]
    rw [this, List.length_append, ih, S.len, List.length_cons, Nat.add_mul]; omega
def SL (S : LS α) (H : AH) (v : Value) (l : List α) : Prop := Sl H S.sz v l.length (S.cells l)
theorem SL.idx {pre rest : List α} {p : α} (h : SL S H v (pre ++ p :: rest)) (kd : IntKind) (i : Int) (hi : i = (pre.length : Int)) : pIdx S.sz v (.int kd i) H = some (ptrAt v (pre.length * S.sz), H) := pIdx_ok h kd i pre.length hi (by simp)
theorem SL.ld {pre rest : List α} {p : α} (h : SL S H v (pre ++ p :: rest)) : pLd (some S.sz) (ptrAt v (pre.length * S.sz)) H = some (.agg (S.f p).toArray, H) := by
  rw [sl_ldn h (by simp), LS.cells_app, List.drop_left' (LS.cells_len pre)]
  have : S.cells (p :: rest) = S.f p ++ S.cells rest := by simp [LS.cells]
  rw [this, List.take_left' (S.len p)]
theorem SL.len_ok {l : List α} (h : SL S H v l) : pLen v H = some (.int .i64 (l.length : Int), H) := pLen_ok h
theorem SL.ext {H' : AH} {l : List α} (h : SL S H v l) (x : HExt H H') : SL S H' v l := Sl.ext x h
theorem SL.snoc {pre rest : List α} {p : α} (h : SL S H v (pre ++ p :: rest)) : SL S H v ((pre ++ [p]) ++ rest) := by rw [← List.append_cons]; exact h
def OL (S : LS α) (n0 : Nat) (H : AH) (v : Value) (l : List α) : Prop := Own n0 S.sz H v l.length (S.cells l)
theorem OL.sl {n0 : Nat} {l : List α} (h : OL S n0 H v l) : SL S H v l := h.1
theorem OL.nil (S : LS α) (n0 : Nat) (H : AH) : OL S n0 H (.slice none 0 0) [] := Own.nil _ _ _
theorem OL.ext {n0 : Nat} {H' : AH} {l : List α} (h : OL S n0 H v l) (x : HExt H H') : OL S n0 H' v l := Own.ext x h
theorem OL.le {n0 n1 : Nat} {l : List α} (h : OL S n1 H v l) (hl : n0 ≤ n1) : OL S n0 H v l := Own.le h hl
theorem OL.same {n0 : Nat} {H' : AH} {l : List α} (h : OL S n0 H v l) (hn : H.n ≤ H'.n) (hg : ∀ b, n0 ≤ b → b < H.n → H'.get b = H.get b) : OL S n0 H' v l := Own.same h hn fun b hb => hg b (by
  obtain ⟨o, l, c, e⟩ := hb
  exact (h.2 b o l c e).1) (h.1.lt hb)
theorem OL.ge {n0 : Nat} {l : List α} (h : OL S n0 H v l) {b : Nat} (hb : inB v b) : n0 ≤ b := by
  obtain ⟨o, l, c, e⟩ := hb
  exact (h.2 b o l c e).1
/-- elements more, out of a slice that was made for them -/
theorem OL.push {n0 : Nat} {l : List α} (m : List α) (h : OL S n0 H v l) (hn : n0 ≤ H.n) (h1 : (S.cells m).all one = true) (bytes : Nat) (hby : 1 ≤ bytes) (hle : (l.length + m.length) * bytes ≤ 140737488355328) {Q : Value → AH → Prop}
    (hq : ∀ v' H', OL S n0 H' v' (l ++ m) → Keep n0 H H' → (∀ b, b < H.n → ¬ inB v b → H'.get b = H.get b) → (∀ b, inB v' b → inB v b ∨ H.n ≤ b) → H.n ≤ H'.n → Q v' H') :
    Got (xapp (H.push ⟨S.cells m, S.sz, false, false⟩) S.sz bytes v (.slice (some ⟨H.n, 0, none⟩) m.length m.length)) Q := by
  have x1 := hext_push H ⟨S.cells m, S.sz, false, false⟩
  have hn1 : (H.push ⟨S.cells m, S.sz, false, false⟩).n = H.n + 1 := rfl
  have o1 := h.ext x1
  refine xapp_own o1 (by omega) (Sl.pushed H (S.cells m) S.sz m.length false false (LS.cells_len m)) h1 S.pos hby hle ?_
  intro v' H' o st
  have hnn := st.n
  refine hq v' H' ?_ (Keep.trans (HExt.keep x1 hn) (st.keep o1 (by omega))) (fun b hb hv => (st.get b (by omega) hv).trans (x1.2 b hb)) (fun b hb => ?_) (by omega)
  · unfold OL
    rw [LS.cells_app, List.length_append]
    exact o
  · rcases st.new b hb with h2 | h2
    · exact .inl h2
    · exact .inr (by omega)

/-! ### boxes of four cells -/
variable {B : Nat} {a b c d : Value}
theorem bx4_ld (h : H.get B = some ⟨[a, b, c, d], 1, false, false⟩) : pLd (some 4) (.pointer (some ⟨B, 0, none⟩)) H = some (.agg #[a, b, c, d], H) := by unfold pLd; simp only [h]; rfl
theorem bx4_0 (h : H.get B = some ⟨[a, b, c, d], 1, false, false⟩) : pLd none (.pointer (some ⟨B, 0, none⟩)) H = some (a, H) := by unfold pLd; simp only [h]; rfl
theorem bx4_1 (h : H.get B = some ⟨[a, b, c, d], 1, false, false⟩) : pLd none (.pointer (some ⟨B, 1, none⟩)) H = some (b, H) := by unfold pLd; simp only [h]; rfl
theorem bx4_2 (h : H.get B = some ⟨[a, b, c, d], 1, false, false⟩) : pLd none (.pointer (some ⟨B, 2, none⟩)) H = some (c, H) := by unfold pLd; simp only [h]; rfl
theorem bx4_3 (h : H.get B = some ⟨[a, b, c, d], 1, false, false⟩) : pLd none (.pointer (some ⟨B, 3, none⟩)) H = some (d, H) := by unfold pLd; simp only [h]; rfl
theorem fldA3 (B : Nat) (H : AH) : pFldA 3 (.pointer (some ⟨B, 0, none⟩)) H = some (.pointer (some ⟨B, 3, none⟩), H) := rfl
theorem bx4_st {a' b' c' d' : Value} (h : H.get B = some ⟨[a, b, c, d], 1, false, false⟩) (h1 : one a' = true) (h2 : one b' = true) (h3 : one c' = true) (h4 : one d' = true) : pSt 4 (.pointer (some ⟨B, 0, none⟩)) (.agg #[a', b', c', d']) H = some (undef, H.set B ⟨[a', b', c', d'], 1, false, false⟩) := by
  have e : vcells (.agg #[a', b', c', d']) = [a', b', c', d'] := rfl
  unfold pSt
  simp only [h, Option.bind_some, e, List.all_cons, List.all_nil, h1, h2, h3, h4]
  rfl
theorem bx4_st2 {c' : Value} (h : H.get B = some ⟨[a, b, c, d], 1, false, false⟩) (h1 : one c' = true) (h2 : vcells c' = [c']) : pSt 1 (.pointer (some ⟨B, 2, none⟩)) c' H = some (undef, H.set B ⟨[a, b, c', d], 1, false, false⟩) := by
  unfold pSt
  simp only [h, Option.bind_some, h2, List.all_cons, List.all_nil, h1]
  rfl
theorem bx4_st3 {d' : Value} (h : H.get B = some ⟨[a, b, c, d], 1, false, false⟩) (h1 : one d' = true) (h2 : vcells d' = [d']) : pSt 1 (.pointer (some ⟨B, 3, none⟩)) d' H = some (undef, H.set B ⟨[a, b, c, d'], 1, false, false⟩) := by
  unfold pSt
  simp only [h, Option.bind_some, h2, List.all_cons, List.all_nil, h1]
  rfl
end Go.Det
