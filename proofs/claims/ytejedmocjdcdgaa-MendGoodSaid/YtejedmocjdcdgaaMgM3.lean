/- What runs of the program's functions compute, on a heap of the run's own, and that the machine does what such a run says: the conditions stand in each theorem. -/
import Derived.Test.YtejedmocjdcdgaaMgM2
set_option linter.unusedSimpArgs false
set_option linter.unusedVariables false
namespace Go.Det

/-! ### slices of structs -/
structure LS (α : Type) where
  sz : Nat
  f : α → List Value
  len : ∀ a, (f a).length = sz
  pos : 1 ≤ sz
def LS.cells {α : Type} (S : LS α) (l : List α) : List Value := l.flatMap S.f
variable {α : Type} {S : LS α} {H : AH} {v : Value}
theorem LS.cells_app (l r : List α) : S.cells (l ++ r) = S.cells l ++ S.cells r := by simp [LS.cells]
theorem LS.cells_len (l : List α) : (S.cells l).length = l.length * S.sz := by
  induction l with
  | nil => simp [LS.cells]
  | cons a l ih =>
    have : S.cells (a :: l) = S.f a ++ S.cells l := by simp [LS.cells]
    rw [this, List.length_append, ih, S.len, List.length_cons, Nat.add_mul]; omega
def SL (S : LS α) (H : AH) (v : Value) (l : List α) : Prop := Sl H S.sz v l.length (S.cells l)
theorem SL.idx {pre rest : List α} {p : α} (h : SL S H v (pre ++ p :: rest)) (kd : IntKind) (i : Int) (hi : i = (pre.length : Int)) : pIdx S.sz v (.int kd i) H = some (ptrAt v (pre.length * S.sz), H) := pIdx_ok h kd i pre.length hi (by simp)
theorem SL.ld {pre rest : List α} {p : α} (h : SL S H v (pre ++ p :: rest)) : pLd (some S.sz) (ptrAt v (pre.length * S.sz)) H = some (.agg (S.f p).toArray, H) := by
  rw [sl_ldn h (by simp), LS.cells_app, List.drop_left' (LS.cells_len pre)]
  have : S.cells (p :: rest) = S.f p ++ S.cells rest := by simp [LS.cells]
  rw [this, List.take_left' (S.len p)]
theorem SL.len_ok {l : List α} (h : SL S H v l) : pLen v H = some (.int .i64 (l.length : Int), H) := pLen_ok h
theorem SL.ext {H' : AH} {l : List α} (h : SL S H v l) (x : HExt H H') : SL S H' v l := Sl.ext x h
theorem SL.snoc {pre rest : List α} {p : α} (h : SL S H v (pre ++ p :: rest)) : SL S H v ((pre ++ [p]) ++ rest) := by rw [← List.append_cons]; exact h
def OL (S : LS α) (n0 : Nat) (H : AH) (v : Value) (l : List α) : Prop := Own n0 S.sz H v l.length (S.cells l)
theorem OL.sl {n0 : Nat} {l : List α} (h : OL S n0 H v l) : SL S H v l := h.1
theorem OL.nil (S : LS α) (n0 : Nat) (H : AH) : OL S n0 H (.slice none 0 0) [] := Own.nil _ _ _
theorem OL.ext {n0 : Nat} {H' : AH} {l : List α} (h : OL S n0 H v l) (x : HExt H H') : OL S n0 H' v l := Own.ext x h
theorem OL.le {n0 n1 : Nat} {l : List α} (h : OL S n1 H v l) (hl : n0 ≤ n1) : OL S n0 H v l := Own.le h hl
theorem OL.same {n0 : Nat} {H' : AH} {l : List α} (h : OL S n0 H v l) (hn : H.n ≤ H'.n) (hg : ∀ b, n0 ≤ b → b < H.n → H'.get b = H.get b) : OL S n0 H' v l := Own.same h hn fun b hb => hg b (by
  obtain ⟨o, l, c, e⟩ := hb
  exact (h.2 b o l c e).1) (h.1.lt hb)
theorem OL.ge {n0 : Nat} {l : List α} (h : OL S n0 H v l) {b : Nat} (hb : inB v b) : n0 ≤ b := by
  obtain ⟨o, l, c, e⟩ := hb
  exact (h.2 b o l c e).1
/-- elements more, out of a slice that was made for them -/
theorem OL.push {n0 : Nat} {l : List α} (m : List α) (h : OL S n0 H v l) (hn : n0 ≤ H.n) (h1 : (S.cells m).all one = true) (bytes : Nat) (hby : 1 ≤ bytes) (hle : (l.length + m.length) * bytes ≤ 140737488355328) {Q : Value → AH → Prop}
    (hq : ∀ v' H', OL S n0 H' v' (l ++ m) → Keep n0 H H' → (∀ b, b < H.n → ¬ inB v b → H'.get b = H.get b) → (∀ b, inB v' b → inB v b ∨ H.n ≤ b) → H.n ≤ H'.n → Q v' H') :
    Got (xapp (H.push ⟨S.cells m, S.sz, false, false⟩) S.sz bytes v (.slice (some ⟨H.n, 0, none⟩) m.length m.length)) Q := by
  have x1 := hext_push H ⟨S.cells m, S.sz, false, false⟩
  have hn1 : (H.push ⟨S.cells m, S.sz, false, false⟩).n = H.n + 1 := rfl
  have o1 := h.ext x1
  refine xapp_own o1 (by omega) (Sl.pushed H (S.cells m) S.sz m.length false false (LS.cells_len m)) h1 S.pos hby hle ?_
  intro v' H' o st
  have hnn := st.n
  refine hq v' H' ?_ (Keep.trans (HExt.keep x1 hn) (st.keep o1 (by omega))) (fun b hb hv => (st.get b (by omega) hv).trans (x1.2 b hb)) (fun b hb => ?_) (by omega)
  · unfold OL
    rw [LS.cells_app, List.length_append]
    exact o
  · rcases st.new b hb with h2 | h2
    · exact .inl h2
    · exact .inr (by omega)

/-! ### boxes of four cells -/
variable {B : Nat} {a b c d : Value}
theorem bx4_ld (h : H.get B = some ⟨[a, b, c, d], 1, false, false⟩) : pLd (some 4) (.pointer (some ⟨B, 0, none⟩)) H = some (.agg #[a, b, c, d], H) := by unfold pLd; simp only [h]; rfl
theorem bx4_0 (h : H.get B = some ⟨[a, b, c, d], 1, false, false⟩) : pLd none (.pointer (some ⟨B, 0, none⟩)) H = some (a, H) := by unfold pLd; simp only [h]; rfl
theorem bx4_1 (h : H.get B = some ⟨[a, b, c, d], 1, false, false⟩) : pLd none (.pointer (some ⟨B, 1, none⟩)) H = some (b, H) := by unfold pLd; simp only [h]; rfl
theorem bx4_2 (h : H.get B = some ⟨[a, b, c, d], 1, false, false⟩) : pLd none (.pointer (some ⟨B, 2, none⟩)) H = some (c, H) := by unfold pLd; simp only [h]; rfl
theorem bx4_3 (h : H.get B = some ⟨[a, b, c, d], 1, false, false⟩) : pLd none (.pointer (some ⟨B, 3, none⟩)) H = some (d, H) := by unfold pLd; simp only [h]; rfl
theorem fldA3 (B : Nat) (H : AH) : pFldA 3 (.pointer (some ⟨B, 0, none⟩)) H = some (.pointer (some ⟨B, 3, none⟩), H) := rfl
theorem bx4_st {a' b' c' d' : Value} (h : H.get B = some ⟨[a, b, c, d], 1, false, false⟩) (h1 : one a' = true) (h2 : one b' = true) (h3 : one c' = true) (h4 : one d' = true) : pSt 4 (.pointer (some ⟨B, 0, none⟩)) (.agg #[a', b', c', d']) H = some (undef, H.set B ⟨[a', b', c', d'], 1, false, false⟩) := by
  have e : vcells (.agg #[a', b', c', d']) = [a', b', c', d'] := rfl
  unfold pSt
  simp only [h, Option.bind_some, e, List.all_cons, List.all_nil, h1, h2, h3, h4]
  rfl
theorem bx4_st2 {c' : Value} (h : H.get B = some ⟨[a, b, c, d], 1, false, false⟩) (h1 : one c' = true) (h2 : vcells c' = [c']) : pSt 1 (.pointer (some ⟨B, 2, none⟩)) c' H = some (undef, H.set B ⟨[a, b, c', d], 1, false, false⟩) := by
  unfold pSt
  simp only [h, Option.bind_some, h2, List.all_cons, List.all_nil, h1]
  rfl
theorem bx4_st3 {d' : Value} (h : H.get B = some ⟨[a, b, c, d], 1, false, false⟩) (h1 : one d' = true) (h2 : vcells d' = [d']) : pSt 1 (.pointer (some ⟨B, 3, none⟩)) d' H = some (undef, H.set B ⟨[a, b, c, d'], 1, false, false⟩) := by
  unfold pSt
  simp only [h, Option.bind_some, h2, List.all_cons, List.all_nil, h1]
  rfl
end Go.Det

set_option linter.unusedSimpArgs false
set_option linter.unusedVariables false
namespace Go.Det
variable {P : Program} {T : XTab}

/-! ### loops by an invariant -/
/-- A loop of n rounds: in each the invariant goes on, or the loop is left in a way that R tells; at the end it is left into Q. -/
theorem run_invR {c : XCode} {fr : Fr} {H : AH} {Q : XExit → Fr → AH → Prop} (I : Nat → Fr → AH → Prop) (R : XExit → Fr → AH → Prop) (n : Nat) (h0 : I 0 fr H)
    (hs : ∀ k, k < n → ∀ fr H, I k fr H → ∀ J : XExit → Fr → AH → Prop, (∀ fr H, I (k + 1) fr H → J .normal fr H) → (∀ e fr H, R e fr H → J e fr H) → Run P T c fr H J)
    (hr : ∀ e fr H, e ≠ .normal → R e fr H → Q e fr H) (hR : ∀ fr H, R .normal fr H → False)
    (he : ∀ fr H, I n fr H → Run P T c fr H (thenQ (fun _ _ => False) Q)) : Run P T (.loop c) fr H Q := by
  have go : ∀ r k fr H, k + r = n → I k fr H → Run P T (.loop c) fr H Q := by
    intro r
    induction r with
    | zero =>
      intro k fr H hk h
      have : k = n := by omega
      subst this
      rw [run_loop]
      refine Run.mono (he fr H h) fun e fr H hq => ?_
      cases e with
      | normal => exact absurd hq (by rw [thenQ_normal]; exact id)
      | exit j => exact hq
      | ret => exact hq
    | succ r ih =>
      intro k fr H hk h
      rw [run_loop]
      refine hs k (by omega) fr H h _ (fun fr H h1 => ?_) fun e fr H hq => ?_
      · rw [thenQ_normal]
        exact ih (k + 1) fr H (by omega) h1
      · cases e with
        | normal => exact absurd hq (hR fr H)
        | exit j => exact hr _ fr H (by simp) hq
        | ret => exact hr _ fr H (by simp) hq
  exact go n 0 fr H (by omega) h0
theorem run_inv {c : XCode} {fr : Fr} {H : AH} {Q : XExit → Fr → AH → Prop} (I : Nat → Fr → AH → Prop) (n : Nat) (h0 : I 0 fr H)
    (hs : ∀ k, k < n → ∀ fr H, I k fr H → ∀ J : XExit → Fr → AH → Prop, (∀ fr H, I (k + 1) fr H → J .normal fr H) → Run P T c fr H J)
    (he : ∀ fr H, I n fr H → Run P T c fr H (thenQ (fun _ _ => False) Q)) : Run P T (.loop c) fr H Q :=
  run_invR I (fun _ _ _ => False) n h0 (fun k hk fr H h J hJ _ => hs k hk fr H h J hJ) (fun _ _ _ _ h => h.elim) (fun _ _ h => h) he

/-! ### structs and rows that are built -/
/-- so many cells put over others -/
def fillN (off n : Nat) (v : Value) (cs : List Value) (k : List Value → Option (List Value)) : Option (List Value) :=
  bif Nat.beq (vcells v).length n && Nat.ble (off + n) cs.length && (vcells v).all one then k (splice cs off (vcells v)) else none
theorem xfill_nil (fr : Fr) (cs : List Value) : xfill fr [] cs = some cs := rfl
theorem xfill_cons (fr : Fr) (off n : Nat) (x : Operand) (ps : List (Nat × Nat × Operand)) (cs : List Value) : xfill fr ((off, n, x) :: ps) cs = (ev fr x).bind fun v => fillN off n v cs fun cs' => xfill fr ps cs' := by
  simp only [xfill]
  cases ev fr x <;> rfl
theorem fillN_one {off : Nat} {v : Value} {cs : List Value} {k : List Value → Option (List Value)} (h1 : one v = true) (h2 : vcells v = [v]) (h : off < cs.length) : fillN off 1 v cs k = k (cs.set off v) := by
  unfold fillN
  have h3 : Nat.ble (off + 1) cs.length = true := by rw [Nat.ble_eq]; exact h
  have h4 : splice cs off [v] = cs.set off v := by rw [← splice_cons _ _ _ _ (by rw [List.length_nil]; omega), splice_nil]
  rw [h2, h3, h4]
  simp only [List.all_cons, List.all_nil, h1]
  rfl
theorem fillN_agg {off n : Nat} {cs ds : List Value} {k : List Value → Option (List Value)} (h1 : ds.all one = true) (h2 : ds.length = n) (h3 : off + n ≤ cs.length) : fillN off n (.agg ds.toArray) cs k = k (cs.take off ++ ds ++ cs.drop (off + n)) := by
  have e : vcells (.agg ds.toArray) = ds := rfl
  have h4 : Nat.beq ds.length n = true := by rw [Nat.beq_eq]; exact h2
  have h5 : Nat.ble (off + n) cs.length = true := by rw [Nat.ble_eq]; exact h3
  unfold fillN
  simp only [e, h1, h4, h5, Bool.true_and, Bool.and_true, cond_true]
  unfold splice
  rw [h2]
theorem fillN_all {n : Nat} {cs ds : List Value} {k : List Value → Option (List Value)} (h1 : ds.all one = true) (h2 : ds.length = n) (h3 : cs.length = n) : fillN 0 n (.agg ds.toArray) cs k = k ds := by
  rw [fillN_agg h1 h2 (by omega), List.take_zero, List.nil_append, List.drop_eq_nil_of_le (by omega), List.append_nil]
theorem one_int (k : IntKind) (n : Int) : one (.int k n) = true := congrArg id rfl
theorem one_bool (b : Bool) : one (.bool b) = true := congrArg id rfl
theorem one_str (s : ByteArray) : one (.string s) = true := congrArg id rfl
theorem one_ptr (p : Option Addr) : one (.pointer p) = true := congrArg id rfl
theorem one_slc (p : Option Addr) (l c : Nat) : one (.slice p l c) = true := congrArg id rfl
theorem vc_int (k : IntKind) (n : Int) : vcells (.int k n) = [.int k n] := congrArg id rfl
theorem vc_bool (b : Bool) : vcells (.bool b) = [.bool b] := congrArg id rfl
theorem vc_str (s : ByteArray) : vcells (.string s) = [.string s] := congrArg id rfl
theorem vc_ptr (p : Option Addr) : vcells (.pointer p) = [.pointer p] := congrArg id rfl
theorem vc_slc (p : Option Addr) (l c : Nat) : vcells (.slice p l c) = [.slice p l c] := congrArg id rfl
theorem vb {fr : Fr} {H : AH} {dd : Option Nat} {zs : List Value} {ps : List (Nat × Nat × Operand)} : xval P (xc P T) ⟨dd, .build zs ps, none⟩ fr H = (xfill fr ps zs).map fun cs => (.agg cs.toArray, H) := (xval_op dd _ fr H rfl).trans (e_build zs ps)
theorem vbs {fr : Fr} {H : AH} {dd : Option Nat} {e : TypeId} {sz n : Nat} {zs : List Value} {ps : List (Nat × Operand)} : xval P (xc P T) ⟨dd, .bslice e sz n zs ps, none⟩ fr H = (xfill fr (ps.map fun p => (p.1 * sz, sz, p.2)) (rep n zs)).map fun cs => (.slice (some ⟨H.n, 0, none⟩) n n, H.push ⟨cs, sz, false, false⟩) := (xval_op dd _ fr H rfl).trans (e_bslice e sz n zs ps)

/-! ### blocks of ours, cell by cell -/
def Bx (H : AH) (E : Nat) (cs : List Value) : Prop := H.get E = some ⟨cs, 1, false, false⟩ ∧ E < H.n
theorem Bx.ext {H H' : AH} {E : Nat} {cs : List Value} (h : Bx H E cs) (x : HExt H H') : Bx H' E cs := ⟨(x.2 E h.2).trans h.1, Nat.lt_of_lt_of_le h.2 x.1⟩
theorem Bx.keep {n0 : Nat} {H H' : AH} {E : Nat} {cs : List Value} (h : Bx H E cs) (x : Keep n0 H H') (hE : E < n0) : Bx H' E cs := ⟨(x.2 E hE).trans h.1, Nat.lt_of_lt_of_le h.2 x.1⟩
theorem Bx.ld {H : AH} {E : Nat} {cs : List Value} (h : Bx H E cs) (k : Nat) (x : Value) (hx : cs[k]? = some x) : pLd none (.pointer (some ⟨E, k, none⟩)) H = some (x, H) := by
  unfold pLd
  simp only [h.1, Option.bind_some]
  have : partV cs k none = some x := hx
  rw [this]; rfl
theorem Bx.ldn {H : AH} {E : Nat} {cs : List Value} (h : Bx H E cs) (n : Nat) (hn : n = cs.length) : pLd (some n) (.pointer (some ⟨E, 0, none⟩)) H = some (.agg cs.toArray, H) := by
  subst hn
  unfold pLd
  simp only [h.1, Option.bind_some]
  have : partV cs 0 (some cs.length) = some (.agg cs.toArray) := by
    show (bif Nat.ble (0 + cs.length) cs.length then some (Value.agg ((cs.drop 0).take cs.length).toArray) else none) = _
    have h2 : Nat.ble (0 + cs.length) cs.length = true := by rw [Nat.zero_add, Nat.ble_eq]; exact Nat.le_refl _
    rw [h2, List.drop_zero, List.take_length]; rfl
  rw [this]; rfl
theorem Bx.st {H : AH} {E : Nat} {cs : List Value} (h : Bx H E cs) (k : Nat) (hk : k < cs.length) (x : Value) (h1 : one x = true) (h2 : vcells x = [x]) : pSt 1 (.pointer (some ⟨E, k, none⟩)) x H = some (undef, H.set E ⟨cs.set k x, 1, false, false⟩) := by
  unfold pSt
  simp only [h.1, Option.bind_some, h2]
  have h3 : Nat.ble (k + 1) cs.length = true := by rw [Nat.ble_eq]; exact hk
  have h4 : splice cs k [x] = cs.set k x := by rw [← splice_cons _ _ _ _ (by rw [List.length_nil]; omega), splice_nil]
  rw [h3, h4]
  simp only [List.all_cons, List.all_nil, h1]
  rfl
/-- the whole block is put -/
theorem Bx.stn {H : AH} {E : Nat} {cs : List Value} (h : Bx H E cs) (n : Nat) (ds : List Value) (hn : n = cs.length) (hd : ds.length = n) (h1 : ds.all one = true) : pSt n (.pointer (some ⟨E, 0, none⟩)) (.agg ds.toArray) H = some (undef, H.set E ⟨ds, 1, false, false⟩) := by
  subst hn
  unfold pSt
  have e : vcells (.agg ds.toArray) = ds := rfl
  have h3 : Nat.ble (0 + cs.length) cs.length = true := by rw [Nat.zero_add, Nat.ble_eq]; exact Nat.le_refl _
  have h4 : Nat.beq ds.length cs.length = true := by rw [Nat.beq_eq]; exact hd
  have h5 : splice cs 0 ds = ds := by
    unfold splice
    rw [List.take_zero, List.nil_append, Nat.zero_add, hd, List.drop_length, List.append_nil]
  simp only [h.1, Option.bind_some, e, h3, h4, h1, h5]
  rfl
theorem Bx.set {H : AH} {E : Nat} {cs : List Value} (h : Bx H E cs) (cs' : List Value) : Bx (H.set E ⟨cs', 1, false, false⟩) E cs' := ⟨by rw [AH.get_set, if_pos rfl], h.2⟩
theorem Bx.new (H : AH) (cs : List Value) : Bx (H.push ⟨cs, 1, false, false⟩) H.n cs := ⟨by rw [AH.get_push, if_pos rfl], Nat.lt_succ_self _⟩
theorem Bx.same {H H' : AH} {E : Nat} {cs : List Value} (h : Bx H E cs) (hn : H.n ≤ H'.n) (hg : H'.get E = H.get E) : Bx H' E cs := ⟨hg.trans h.1, Nat.lt_of_lt_of_le h.2 hn⟩
/-- a box that is made and filled at once -/
theorem Bx.mk (H : AH) (zs cs : List Value) : Bx ((H.push ⟨zs, 1, false, false⟩).set H.n ⟨cs, 1, false, false⟩) H.n cs := (Bx.new H zs).set cs
theorem fldAk (B k : Nat) (H : AH) : pFldA k (.pointer (some ⟨B, 0, none⟩)) H = some (.pointer (some ⟨B, k, none⟩), H) := by
  show some (Value.pointer (some ⟨B, 0 + k, none⟩), H) = _
  rw [Nat.zero_add]
theorem ptr_fld {H : AH} {sz n k off : Nat} {s : Value} {cs : List Value} (h : Sl H sz s n cs) (hn : 0 < n) : pFldA off (ptrAt s k) H = some (ptrAt s (k + off), H) := by
  obtain ⟨B, o, c, blk, rfl, _⟩ := h.live hn
  show some (Value.pointer (some ⟨B, o + k + off, none⟩), H) = some (.pointer (some ⟨B, o + (k + off), none⟩), H)
  rw [Nat.add_assoc]

/-! ### rows of structs, by an element's number -/
variable {α : Type} {S : LS α} {H : AH} {v : Value}
theorem SL.at {l : List α} (h : SL S H v l) (kd : IntKind) (i : Int) (k : Nat) (hi : i = (k : Int)) (hk : k < l.length) : pIdx S.sz v (.int kd i) H = some (ptrAt v (k * S.sz), H) := pIdx_ok h kd i k hi hk
theorem LS.cells_at (S : LS α) (l : List α) (k : Nat) (a : α) (h : l[k]? = some a) (off : Nat) (x : Value) (hx : (S.f a)[off]? = some x) : (S.cells l)[k * S.sz + off]? = some x := by
  obtain ⟨hk, e⟩ := List.getElem?_eq_some_iff.1 h
  have hl : l = l.take k ++ a :: l.drop (k + 1) := by rw [← e, ← List.drop_eq_getElem_cons hk, List.take_append_drop]
  have ho := (List.getElem?_eq_some_iff.1 hx).1
  rw [hl, LS.cells_app, List.getElem?_append_right (by rw [LS.cells_len, List.length_take, Nat.min_eq_left (by omega)]; omega), LS.cells_len, List.length_take, Nat.min_eq_left (by omega), show k * S.sz + off - k * S.sz = off by omega]
  have : S.cells (a :: l.drop (k + 1)) = S.f a ++ S.cells (l.drop (k + 1)) := by simp [LS.cells]
  rw [this, List.getElem?_append_left ho, hx]
theorem SL.cell {l : List α} (h : SL S H v l) (k : Nat) (a : α) (ha : l[k]? = some a) (off : Nat) (x : Value) (hx : (S.f a)[off]? = some x) : pLd none (ptrAt v (k * S.sz + off)) H = some (x, H) := pLd_one h _ _ (LS.cells_at S l k a ha off x hx)
theorem SL.ldk {l : List α} (h : SL S H v l) (k : Nat) (a : α) (ha : l[k]? = some a) : pLd (some S.sz) (ptrAt v (k * S.sz)) H = some (.agg (S.f a).toArray, H) := by
  obtain ⟨hk, e⟩ := List.getElem?_eq_some_iff.1 ha
  have hl : l = l.take k ++ a :: l.drop (k + 1) := by rw [← e, ← List.drop_eq_getElem_cons hk, List.take_append_drop]
  have hlen : (l.take k).length = k := by rw [List.length_take]; omega
  rw [hl] at h
  have := h.ld
  rwa [hlen] at this
theorem SL.fld {l : List α} (h : SL S H v l) (off k : Nat) (hl : 0 < l.length) : pFldA off (ptrAt v k) H = some (ptrAt v (k + off), H) := ptr_fld h hl
/-- a row of values with something told of each -/
def VL (β : Type) : LS (Value × β) := ⟨1, fun p => [p.1], fun _ => rfl, Nat.le_refl _⟩
theorem vl_cells {β : Type} (l : List (Value × β)) : (VL β).cells l = l.map (·.1) := by
  induction l with
  | nil => rfl
  | cons p l ih =>
    have : (VL β).cells (p :: l) = p.1 :: (VL β).cells l := rfl
    rw [this, ih]; rfl
theorem vl_at {β : Type} {l : List (Value × β)} (h : SL (VL β) H v l) (i : Int) (k : Nat) (hi : i = (k : Int)) (p : Value × β) (hp : l[k]? = some p) : pIdx 1 v (.int .i64 i) H = some (ptrAt v k, H) ∧ pLd none (ptrAt v k) H = some (p.1, H) := by
  obtain ⟨hk, _⟩ := List.getElem?_eq_some_iff.1 hp
  have h' : Sl H 1 v l.length ((VL β).cells l) := h
  refine ⟨pIdx_one h' .i64 i k hi hk, pLd_one h' k p.1 ?_⟩
  rw [vl_cells, List.getElem?_map, hp]; rfl
theorem wrS (k : Nat) (h : k < 4611686018427387904) : IntKind.i64.wrap ((k : Int) + 1) = ((k + 1 : Nat) : Int) := by rw [wrI _ (by omega) (by omega)]; omega
/-- another row's elements behind those of one that is owned -/
theorem OL.app {n0 : Nat} {l m : List α} {y : Value} (h : OL S n0 H v l) (hn : n0 ≤ H.n) (hs : SL S H y m) (h1 : (S.cells m).all one = true) (bytes : Nat) (hby : 1 ≤ bytes) (hle : (l.length + m.length) * bytes ≤ 140737488355328) {Q : Value → AH → Prop}
    (hq : ∀ v' H', OL S n0 H' v' (l ++ m) → Keep n0 H H' → (∀ b, b < H.n → ¬ inB v b → H'.get b = H.get b) → (∀ b, inB v' b → inB v b ∨ H.n ≤ b) → H.n ≤ H'.n → Q v' H') :
    Got (xapp H S.sz bytes v y) Q := by
  refine xapp_own h hn hs h1 S.pos hby hle ?_
  intro v' H' o st
  refine hq v' H' ?_ (st.keep h hn) st.get st.new st.n
  unfold OL
  rw [LS.cells_app, List.length_append]
  exact o
theorem take_succ_at {β : Type} (l : List β) (k : Nat) (a : β) (h : l[k]? = some a) : l.take (k + 1) = l.take k ++ [a] := by
  rw [List.take_add_one, h]; rfl
theorem all_flatMap {β : Type} (f : β → List Value) (l : List β) (h : ∀ a ∈ l, (f a).all one = true) : (l.flatMap f).all one = true := by
  rw [List.all_eq_true]
  intro x hx
  obtain ⟨a, ha, hxa⟩ := List.mem_flatMap.1 hx
  exact List.all_eq_true.1 (h a ha) x hxa
end Go.Det
