/- What runs of the program's functions compute, on a heap of the run's own, and that the machine does what such a run says: the conditions stand in each theorem. -/
import Derived.Test.YtpmcajokddjkeaaDoorObM2
set_option linter.unusedSimpArgs false
set_option linter.unusedVariables false
namespace Go.Det
variable {P : Program} {T : XTab}

/-! ### loops by an invariant -/
/-- A loop of n rounds: in each the invariant goes on, or the loop is left in a way that R tells; at the end it is left into Q. -/
theorem run_invR {c : XCode} {fr : Fr} {H : AH} {Q : XExit → Fr → AH → Prop} (I : Nat → Fr → AH → Prop) (R : XExit → Fr → AH → Prop) (n : Nat) (h0 : I 0 fr H)
    (hs : ∀ k, k < n → ∀ fr H, I k fr H → ∀ J : XExit → Fr → AH → Prop, (∀ fr H, I (k + 1) fr H → J .normal fr H) → (∀ e fr H, R e fr H → J e fr H) → Run P T c fr H J)
    (hr : ∀ e fr H, e ≠ .normal → R e fr H → Q e fr H) (hR : ∀ fr H, R .normal fr H → False)
    (he : ∀ fr H, I n fr H → Run P T c fr H (thenQ (fun _ _ => False) Q)) : Run P T (.loop c) fr H Q := by
  have go : ∀ r k fr H, k + r = n → I k fr H → Run P T (.loop c) fr H Q := by
    intro r
    induction r with
    | zero =>
      intro k fr H hk h
      have : k = n := by omega
      subst this
      rw [run_loop]
      refine Run.mono (he fr H h) fun e fr H hq => ?_
      cases e with
      | normal => exact absurd hq (by rw [q_g]; exact id)
      | exit j => exact hq
      | ret => exact hq
    | succ r ih =>
      intro k fr H hk h
      rw [run_loop]
      refine hs k (by omega) fr H h _ (fun fr H h1 => ?_) fun e fr H hq => ?_
      · rw [q_g]
        exact ih (k + 1) fr H (by omega) h1
      · cases e with
        | normal => exact absurd hq (hR fr H)
        | exit j => exact hr _ fr H (by simp) hq
        | ret => exact hr _ fr H (by simp) hq
  exact go n 0 fr H (by omega) h0
theorem run_inv {c : XCode} {fr : Fr} {H : AH} {Q : XExit → Fr → AH → Prop} (I : Nat → Fr → AH → Prop) (n : Nat) (h0 : I 0 fr H)
    (hs : ∀ k, k < n → ∀ fr H, I k fr H → ∀ J : XExit → Fr → AH → Prop, (∀ fr H, I (k + 1) fr H → J .normal fr H) → Run P T c fr H J)
    (he : ∀ fr H, I n fr H → Run P T c fr H (thenQ (fun _ _ => False) Q)) : Run P T (.loop c) fr H Q :=
  run_invR I (fun _ _ _ => False) n h0 (fun k hk fr H h J hJ _ => hs k hk fr H h J hJ) (fun _ _ _ _ h => h.elim) (fun _ _ h => h) he

theorem HExt.trans' {A B C : AH} (h : HExt A B) (hn : B.n ≤ C.n) (hg : ∀ b, b < A.n → C.get b = B.get b) : HExt A C := ⟨Nat.le_trans h.1 hn, fun b hb => (hg b hb).trans (h.2 b hb)⟩

/-! ### structs and rows that are built -/
/-- so many cells put over others -/
def fillN (off n : Nat) (v : Value) (cs : List Value) (k : List Value → Option (List Value)) : Option (List Value) :=
  bif Nat.beq (vcells v).length n && Nat.ble (off + n) cs.length && (vcells v).all one then k (splice cs off (vcells v)) else none
theorem qb_Y (fr : Fr) (cs : List Value) : xfill fr [] cs = some cs := rfl
theorem qb_X (fr : Fr) (off n : Nat) (x : Operand) (ps : List (Nat × Nat × Operand)) (cs : List Value) : xfill fr ((off, n, x) :: ps) cs = (ev fr x).bind fun v => fillN off n v cs fun cs' => xfill fr ps cs' := by
  simp only [xfill]
  cases ev fr x <;> rfl
theorem qb_Z {off : Nat} {v : Value} {cs : List Value} {k : List Value → Option (List Value)} (h1 : one v = true) (h2 : vcells v = [v]) (h : off < cs.length) : fillN off 1 v cs k = k (cs.set off v) := by
  unfold fillN
  have h3 : Nat.ble (off + 1) cs.length = true := by rw [Nat.ble_eq]; exact h
  have h4 : splice cs off [v] = cs.set off v := by rw [← splice_cons _ _ _ _ (by rw [List.length_nil]; omega), splice_nil]
  rw [h2, h3, h4]
  simp only [List.all_cons, List.all_nil, h1]
  rfl
theorem fillN_agg {off n : Nat} {cs ds : List Value} {k : List Value → Option (List Value)} (h1 : ds.all one = true) (h2 : ds.length = n) (h3 : off + n ≤ cs.length) : fillN off n (.agg ds.toArray) cs k = k (cs.take off ++ ds ++ cs.drop (off + n)) := by
  have e : vcells (.agg ds.toArray) = ds := rfl
  have h4 : Nat.beq ds.length n = true := by rw [Nat.beq_eq]; exact h2
  have h5 : Nat.ble (off + n) cs.length = true := by rw [Nat.ble_eq]; exact h3
  unfold fillN
  simp only [e, h1, h4, h5, Bool.true_and, Bool.and_true, cond_true]
  unfold splice
  rw [h2]
theorem fillN_all {n : Nat} {cs ds : List Value} {k : List Value → Option (List Value)} (h1 : ds.all one = true) (h2 : ds.length = n) (h3 : cs.length = n) : fillN 0 n (.agg ds.toArray) cs k = k ds := by
  rw [fillN_agg h1 h2 (by omega), List.take_zero, List.nil_append, List.drop_eq_nil_of_le (by omega), List.append_nil]
theorem one_int (k : IntKind) (n : Int) : one (.int k n) = true := congrArg id rfl
theorem one_bool (b : Bool) : one (.bool b) = true := congrArg id rfl
theorem one_str (s : ByteArray) : one (.string s) = true := congrArg id rfl
theorem one_ptr (p : Option Addr) : one (.pointer p) = true := congrArg id rfl
theorem one_slc (p : Option Addr) (l c : Nat) : one (.slice p l c) = true := congrArg id rfl
theorem vc_int (k : IntKind) (n : Int) : vcells (.int k n) = [.int k n] := congrArg id rfl
theorem vc_bool (b : Bool) : vcells (.bool b) = [.bool b] := congrArg id rfl
theorem vc_str (s : ByteArray) : vcells (.string s) = [.string s] := congrArg id rfl
theorem vc_ptr (p : Option Addr) : vcells (.pointer p) = [.pointer p] := congrArg id rfl
theorem vc_slc (p : Option Addr) (l c : Nat) : vcells (.slice p l c) = [.slice p l c] := congrArg id rfl
theorem vb {fr : Fr} {H : AH} {dd : Option Nat} {zs : List Value} {ps : List (Nat × Nat × Operand)} : xval P (xc P T) ⟨dd, .build zs ps, none⟩ fr H = (xfill fr ps zs).map fun cs => (.agg cs.toArray, H) := (xval_op dd _ fr H rfl).trans (e_build zs ps)
theorem vbs {fr : Fr} {H : AH} {dd : Option Nat} {e : TypeId} {sz n : Nat} {zs : List Value} {ps : List (Nat × Operand)} : xval P (xc P T) ⟨dd, .bslice e sz n zs ps, none⟩ fr H = (xfill fr (ps.map fun p => (p.1 * sz, sz, p.2)) (rep n zs)).map fun cs => (.slice (some ⟨H.n, 0, none⟩) n n, H.push ⟨cs, sz, false, false⟩) := (xval_op dd _ fr H rfl).trans (e_bslice e sz n zs ps)

/-! ### blocks of ours, cell by cell -/
def Bx (H : AH) (E : Nat) (cs : List Value) : Prop := H.get E = some ⟨cs, 1, false, false⟩ ∧ E < H.n
theorem Bx.ext {H H' : AH} {E : Nat} {cs : List Value} (h : Bx H E cs) (x : HExt H H') : Bx H' E cs := ⟨(x.2 E h.2).trans h.1, Nat.lt_of_lt_of_le h.2 x.1⟩
theorem Bx.keep {n0 : Nat} {H H' : AH} {E : Nat} {cs : List Value} (h : Bx H E cs) (x : Keep n0 H H') (hE : E < n0) : Bx H' E cs := ⟨(x.2 E hE).trans h.1, Nat.lt_of_lt_of_le h.2 x.1⟩
theorem Bx.ld {H : AH} {E : Nat} {cs : List Value} (h : Bx H E cs) (k : Nat) (x : Value) (hx : cs[k]? = some x) : pLd none (.pointer (some ⟨E, k, none⟩)) H = some (x, H) := by
  unfold pLd
  simp only [h.1, Option.bind_some]
  have : partV cs k none = some x := hx
  rw [this]; rfl
theorem Bx.ldn {H : AH} {E : Nat} {cs : List Value} (h : Bx H E cs) (n : Nat) (hn : n = cs.length) : pLd (some n) (.pointer (some ⟨E, 0, none⟩)) H = some (.agg cs.toArray, H) := by
  subst hn
  unfold pLd
  simp only [h.1, Option.bind_some]
  have : partV cs 0 (some cs.length) = some (.agg cs.toArray) := by
    show (bif Nat.ble (0 + cs.length) cs.length then some (Value.agg ((cs.drop 0).take cs.length).toArray) else none) = _
    have h2 : Nat.ble (0 + cs.length) cs.length = true := by rw [Nat.zero_add, Nat.ble_eq]; exact Nat.le_refl _
    rw [h2, List.drop_zero, List.take_length]; rfl
  rw [this]; rfl
theorem Bx.st {H : AH} {E : Nat} {cs : List Value} (h : Bx H E cs) (k : Nat) (hk : k < cs.length) (x : Value) (h1 : one x = true) (h2 : vcells x = [x]) : pSt 1 (.pointer (some ⟨E, k, none⟩)) x H = some (undef, H.set E ⟨cs.set k x, 1, false, false⟩) := by
  unfold pSt
  simp only [h.1, Option.bind_some, h2]
  have h3 : Nat.ble (k + 1) cs.length = true := by rw [Nat.ble_eq]; exact hk
  have h4 : splice cs k [x] = cs.set k x := by rw [← splice_cons _ _ _ _ (by rw [List.length_nil]; omega), splice_nil]
  rw [h3, h4]
  simp only [List.all_cons, List.all_nil, h1]
  rfl
/-- the whole block is put -/
theorem Bx.stn {H : AH} {E : Nat} {cs : List Value} (h : Bx H E cs) (n : Nat) (ds : List Value) (hn : n = cs.length) (hd : ds.length = n) (h1 : ds.all one = true) : pSt n (.pointer (some ⟨E, 0, none⟩)) (.agg ds.toArray) H = some (undef, H.set E ⟨ds, 1, false, false⟩) := by
  subst hn
  unfold pSt
  have e : vcells (.agg ds.toArray) = ds := rfl
  have h3 : Nat.ble (0 + cs.length) cs.length = true := by rw [Nat.zero_add, Nat.ble_eq]; exact Nat.le_refl _
  have h4 : Nat.beq ds.length cs.length = true := by rw [Nat.beq_eq]; exact hd
  have h5 : splice cs 0 ds = ds := by
    unfold splice
    rw [List.take_zero, List.nil_append, Nat.zero_add, hd, List.drop_length, List.append_nil]
  simp only [h.1, Option.bind_some, e, h3, h4, h1, h5]
  rfl
theorem Bx.set {H : AH} {E : Nat} {cs : List Value} (h : Bx H E cs) (cs' : List Value) : Bx (H.set E ⟨cs', 1, false, false⟩) E cs' := ⟨by rw [AH.get_set, if_pos rfl], h.2⟩
theorem Bx.new (H : AH) (cs : List Value) : Bx (H.push ⟨cs, 1, false, false⟩) H.n cs := ⟨by rw [AH.get_push, if_pos rfl], Nat.lt_succ_self _⟩
theorem Bx.same {H H' : AH} {E : Nat} {cs : List Value} (h : Bx H E cs) (hn : H.n ≤ H'.n) (hg : H'.get E = H.get E) : Bx H' E cs := ⟨hg.trans h.1, Nat.lt_of_lt_of_le h.2 hn⟩
/-- a box that is made and filled at once -/
theorem Bx.mk (H : AH) (zs cs : List Value) : Bx ((H.push ⟨zs, 1, false, false⟩).set H.n ⟨cs, 1, false, false⟩) H.n cs := (Bx.new H zs).set cs
theorem fldAk (B k : Nat) (H : AH) : pFldA k (.pointer (some ⟨B, 0, none⟩)) H = some (.pointer (some ⟨B, k, none⟩), H) := by
  show some (Value.pointer (some ⟨B, 0 + k, none⟩), H) = _
  rw [Nat.zero_add]
theorem ptr_fld {H : AH} {sz n k off : Nat} {s : Value} {cs : List Value} (h : Sl H sz s n cs) (hn : 0 < n) : pFldA off (ptrAt s k) H = some (ptrAt s (k + off), H) := by
  obtain ⟨B, o, c, blk, rfl, _⟩ := h.live hn
  show some (Value.pointer (some ⟨B, o + k + off, none⟩), H) = some (.pointer (some ⟨B, o + (k + off), none⟩), H)
  rw [Nat.add_assoc]

/-! ### rows of structs, by an element's number -/
variable {α : Type} {S : LS α} {H : AH} {v : Value}
theorem SL.at {l : List α} (h : SL S H v l) (kd : IntKind) (i : Int) (k : Nat) (hi : i = (k : Int)) (hk : k < l.length) : pIdx S.sz v (.int kd i) H = some (ptrAt v (k * S.sz), H) := pIdx_ok h kd i k hi hk
theorem LS.cells_at (S : LS α) (l : List α) (k : Nat) (a : α) (h : l[k]? = some a) (off : Nat) (x : Value) (hx : (S.f a)[off]? = some x) : (S.cells l)[k * S.sz + off]? = some x := by
  obtain ⟨hk, e⟩ := List.getElem?_eq_some_iff.1 h
  have hl : l = l.take k ++ a :: l.drop (k + 1) := by rw [← e, ← List.drop_eq_getElem_cons hk, List.take_append_drop]
  have ho := (List.getElem?_eq_some_iff.1 hx).1
  rw [hl, LS.cells_app, List.getElem?_append_right (by rw [LS.cells_len, List.length_take, Nat.min_eq_left (by omega)]; omega), LS.cells_len, List.length_take, Nat.min_eq_left (by omega), show k * S.sz + off - k * S.sz = off by omega]
  have : S.cells (a :: l.drop (k + 1)) = S.f a ++ S.cells (l.drop (k + 1)) := by simp [LS.cells]
  rw [this, List.getElem?_append_left ho, hx]
theorem SL.cell {l : List α} (h : SL S H v l) (k : Nat) (a : α) (ha : l[k]? = some a) (off : Nat) (x : Value) (hx : (S.f a)[off]? = some x) : pLd none (ptrAt v (k * S.sz + off)) H = some (x, H) := pLd_one h _ _ (LS.cells_at S l k a ha off x hx)
theorem SL.ldk {l : List α} (h : SL S H v l) (k : Nat) (a : α) (ha : l[k]? = some a) : pLd (some S.sz) (ptrAt v (k * S.sz)) H = some (.agg (S.f a).toArray, H) := by
  obtain ⟨hk, e⟩ := List.getElem?_eq_some_iff.1 ha
  have hl : l = l.take k ++ a :: l.drop (k + 1) := by rw [← e, ← List.drop_eq_getElem_cons hk, List.take_append_drop]
  have hlen : (l.take k).length = k := by rw [List.length_take]; omega
  rw [hl] at h
  have := h.ld
  rwa [hlen] at this
theorem SL.fld {l : List α} (h : SL S H v l) (off k : Nat) (hl : 0 < l.length) : pFldA off (ptrAt v k) H = some (ptrAt v (k + off), H) := ptr_fld h hl
theorem wrS (k : Nat) (h : k < 4611686018427387904) : IntKind.i64.wrap ((k : Int) + 1) = ((k + 1 : Nat) : Int) := by rw [wrI _ (by omega) (by omega)]; omega
/-- another row's elements behind those of one that is owned -/
theorem OL.app {n0 : Nat} {l m : List α} {y : Value} (h : OL S n0 H v l) (hn : n0 ≤ H.n) (hs : SL S H y m) (h1 : (S.cells m).all one = true) (bytes : Nat) (hby : 1 ≤ bytes) (hle : (l.length + m.length) * bytes ≤ 140737488355328) {Q : Value → AH → Prop}
    (hq : ∀ v' H', OL S n0 H' v' (l ++ m) → Keep n0 H H' → (∀ b, b < H.n → ¬ inB v b → H'.get b = H.get b) → (∀ b, inB v' b → inB v b ∨ H.n ≤ b) → H.n ≤ H'.n → Q v' H') :
    Got (xapp H S.sz bytes v y) Q := by
  refine xapp_own h hn hs h1 S.pos hby hle ?_
  intro v' H' o st
  refine hq v' H' ?_ (st.keep h hn) st.get st.new st.n
  unfold OL
  rw [LS.cells_app, List.length_append]
  exact o
theorem take_succ_at {β : Type} (l : List β) (k : Nat) (a : β) (h : l[k]? = some a) : l.take (k + 1) = l.take k ++ [a] := by
  rw [List.take_add_one, h]; rfl
end Go.Det

set_option linter.unusedSimpArgs false
set_option linter.unusedVariables false
namespace Go.Det
variable {P : Program} {T : XTab}

/-! ### texts as lists of bytes -/
def Oct (l : List Int) : Prop := ∀ b ∈ l, 0 ≤ b ∧ b < 256
def sB (l : List Int) : ByteArray := ⟨(l.map fun n => UInt8.ofNat n.toNat).toArray⟩
theorem sB_size (l : List Int) : (sB l).size = l.length := by
  show ((l.map fun n => UInt8.ofNat n.toNat).toArray).size = _
  simp
theorem sB_toList (l : List Int) : (sB l).data.toList = l.map fun n => UInt8.ofNat n.toNat := by simp [sB]
theorem u8_back {n : Int} (h : 0 ≤ n ∧ n < 256) : (((UInt8.ofNat n.toNat).toNat : Nat) : Int) = n := by
  rw [UInt8.toNat_ofNat']
  have : n.toNat % 2 ^ 8 = n.toNat := Nat.mod_eq_of_lt (by omega)
  rw [this]; omega
theorem sB_cells (l : List Int) (h : Oct l) : strCells (sB l) = l.map (Value.int .u8) := by
  unfold strCells
  rw [sB_toList, List.map_map]
  refine List.map_congr_left fun n hn => ?_
  show Value.int .u8 (((UInt8.ofNat n.toNat).toNat : Nat) : Int) = _
  rw [u8_back (h n hn)]
theorem sB_inj {a b : List Int} (ha : Oct a) (hb : Oct b) (h : sB a = sB b) : a = b := by
  have h1 := sB_cells a ha
  rw [h, sB_cells b hb] at h1
  have : ∀ a b : List Int, a.map (Value.int .u8) = b.map (Value.int .u8) → b = a := by
    intro a
    induction a with
    | nil => intro b h; simpa using h
    | cons x a ih =>
      intro b h
      cases b with
      | nil => simp at h
      | cons y b =>
        simp only [List.map_cons, List.cons.injEq, Value.int.injEq, true_and] at h
        rw [ih b h.2, h.1]
  exact this b a h1
theorem sB_app (a b : List Int) : sB a ++ sB b = sB (a ++ b) := by
  apply ByteArray.ext
  show (sB a ++ sB b).data = _
  rw [ByteArray.data_append]
  simp [sB]
theorem ba_loop (s : ByteArray) : ∀ (f i : Nat) (r : List UInt8), s.size - i ≤ f → ByteArray.toList.loop s i r = r.reverse ++ s.data.toList.drop i := by
  intro f
  induction f with
  | zero =>
    intro i r h
    have hsz : s.data.toList.length = s.size := Array.length_toList
    unfold ByteArray.toList.loop
    rw [if_neg (by omega), List.drop_eq_nil_of_le (by omega), List.append_nil]
  | succ f ih =>
    intro i r h
    have hsz : s.data.toList.length = s.size := Array.length_toList
    unfold ByteArray.toList.loop
    by_cases hi : i < s.size
    · rw [if_pos hi, ih (i + 1) _ (by omega)]
      have hi' : i < s.data.size := hi
      have hg : s.get! i = s.data.toList[i]'(by omega) := by
        show s.data[i]! = _
        rw [getElem!_pos s.data i hi', Array.getElem_toList]
      rw [List.reverse_cons, hg, List.append_assoc, List.singleton_append, ← List.drop_eq_getElem_cons (by omega)]
    · rw [if_neg hi, List.drop_eq_nil_of_le (by omega), List.append_nil]
theorem ba_toList (s : ByteArray) : s.toList = s.data.toList := by
  unfold ByteArray.toList
  rw [ba_loop s s.size 0 [] (by omega)]
  simp
theorem sB_toL (l : List Int) : (sB l).toList = l.map fun n => UInt8.ofNat n.toNat := by rw [ba_toList, sB_toList]
theorem u8l_inj {a b : List Int} (ha : Oct a) (hb : Oct b) : ((a.map fun n => UInt8.ofNat n.toNat) == (b.map fun n => UInt8.ofNat n.toNat)) = decide (a = b) := by
  by_cases h : a = b
  · subst h; simp
  · rw [decide_eq_false h, beq_eq_false_iff_ne]
    intro h2
    exact h (sB_inj ha hb (by unfold sB; rw [h2]))
theorem sB_beq {a b : List Int} (ha : Oct a) (hb : Oct b) : (sB a == sB b) = decide (a = b) := by
  by_cases h : a = b
  · subst h; rw [ba_self]; simp
  · rw [decide_eq_false h]
    cases hc : (sB a == sB b)
    · rfl
    · exact absurd (sB_inj ha hb (ba_beq.1 hc)) h
theorem str_eql {a b : List Int} (ha : Oct a) (hb : Oct b) : xbin .eql (.string (sB a)) (.string (sB b)) = some (.bool (decide (a = b))) := by
  show sbin .eql (sB a) (sB b) = _
  simp only [sbin, sB_toL, u8l_inj ha hb]
theorem str_add (a b : List Int) (h : a.length + b.length ≤ 1000000000) : xbin .add (.string (sB a)) (.string (sB b)) = some (.string (sB (a ++ b))) := by
  show sbin .add (sB a) (sB b) = _
  have : ¬ (((sB a).size + (sB b).size : Nat) : Int) > IntKind.i64.max := by
    rw [sB_size, sB_size]
    show ¬ ((a.length + b.length : Nat) : Int) > 9223372036854775807
    omega
  simp only [sbin, this, if_false, sB_app]

/-! #### operations on texts -/
def pLens (a : Value) (H : AH) : Option (Value × AH) :=
  match a with
  | .string s => some (.int .i64 (Int.ofNat s.size), H)
  | _ => none
theorem v_lens {fr : Fr} {H : AH} (dd : Option Nat) (x : Operand) : xval P (xc P T) ⟨dd, .lens x, none⟩ fr H = (ev fr x).bind fun a => pLens a H := by
  rw [xval_op dd _ fr H rfl]
  simp only [xop]
  rcases ev fr x with _ | v
  · rfl
  · cases v <;> rfl
theorem pLens_sB (l : List Int) (H : AH) : pLens (.string (sB l)) H = some (.int .i64 (l.length : Int), H) := by
  show some (Value.int .i64 (Int.ofNat (sB l).size), H) = _
  rw [sB_size]; rfl
/-- a text's byte -/
def pSix (a i : Value) (H : AH) : Option (Value × AH) :=
  match a, i with
  | .string s, .int _ (.ofNat k) => if h : k < s.size then some (.int .u8 ((s[k]).toNat : Int), H) else none
  | _, _ => none
theorem flat_six {fr : Fr} {H : AH} {t t' : TypeId} (hu : P.underlying t = some .string) (x i : Operand) (s : ByteArray) (kd : IntKind) (k : Nat) (hx : ev fr x = some (.string s)) (hi : ev fr i = some (.int kd (.ofNat k))) (h : k < s.size) :
    xop P fr H (.flat (.index t x i) t') = some (.int .u8 ((s[k]).toNat : Int), H) := by
  refine flat_eq ?_ ?_ rfl
  · simp [Op.operands, evFlat, hx, hi, flatD]
  · have h1 : s[k]? = some s[k] := by simp [h]
    simp only [execOp, flatOper, hx, hi, Option.getD_some]
    simp [Instr.index, asIntOf, pureRun_bind, pureRun_underlying hu, pureRun_pure, pureRun_map, h1]
theorem v_six {fr : Fr} {H : AH} {t : TypeId} (hu : P.underlying t = some .string) (dd : Option Nat) (x i : Operand) (t' : TypeId) : xval P (xc P T) ⟨dd, .flat (.index t x i) t', none⟩ fr H =
    match pSix ((ev fr x).getD undef) ((ev fr i).getD undef) H with | some r => some r | none => xop P fr H (.flat (.index t x i) t') := by
  rw [xval_op dd _ fr H rfl]
  split
  · rename_i r hr
    unfold pSix at hr
    split at hr
    · rename_i s kd k h1 h2
      split at hr
      · rename_i hk
        have hx : ev fr x = some (.string s) := by
          cases he : ev fr x with
          | none => rw [he] at h1; cases h1
          | some v => rw [he] at h1; exact congrArg some h1
        have hi : ev fr i = some (.int kd (.ofNat k)) := by
          cases he : ev fr i with
          | none => rw [he] at h2; cases h2
          | some v => rw [he] at h2; exact congrArg some h2
        rw [flat_six hu x i s kd k hx hi hk]; exact hr
      · cases hr
    · cases hr
  · rfl
theorem sB_get (l : List Int) (h : Oct l) (k : Nat) (hk : k < l.length) (hk2 : k < (sB l).size) : (((sB l)[k]).toNat : Int) = l[k] := by
  have : (sB l)[k] = UInt8.ofNat (l[k]).toNat := by
    show ((l.map fun n => UInt8.ofNat n.toNat).toArray)[k]'(by simpa using hk) = _
    simp
  rw [this]
  exact u8_back (h _ (List.getElem_mem _))
theorem pSix_sB (l : List Int) (h : Oct l) (kd : IntKind) (i : Int) (k : Nat) (hi : i = (k : Int)) (x : Int) (hx : l[k]? = some x) (H : AH) : pSix (.string (sB l)) (.int kd i) H = some (.int .u8 x, H) := by
  subst hi
  obtain ⟨hk, e⟩ := List.getElem?_eq_some_iff.1 hx
  have hk2 : k < (sB l).size := by rw [sB_size]; exact hk
  show (if h : k < (sB l).size then some (Value.int .u8 (((sB l)[k]).toNat : Int), H) else none) = _
  rw [dif_pos hk2, sB_get l h k hk hk2, e]
/-! ### parts of a slice -/
/-! ### rows that are owned, all over -/
/-! ### maps with texts as keys -/
def kvC (l : List (List Int × Value)) : List Value := l.flatMap fun p => [.string (sB p.1), p.2]
def kvGet (s : List Int) : List (List Int × Value) → Nat → Option (Nat × Value)
  | [], _ => none
  | p :: r, i => if s = p.1 then some (i, p.2) else kvGet s r (i + 1)
def kvPut (s : List Int) (v : Value) : List (List Int × Value) → List (List Int × Value)
  | [] => [(s, v)]
  | p :: r => if s = p.1 then (s, v) :: r else p :: kvPut s v r
theorem kvC_cons (p : List Int × Value) (l : List (List Int × Value)) : kvC (p :: l) = .string (sB p.1) :: p.2 :: kvC l := rfl
theorem mfind_kv (s : List Int) (hs : Oct s) : ∀ (l : List (List Int × Value)) (i : Nat), (∀ p ∈ l, Oct p.1) → mfind (sB s) (kvC l) i = some (kvGet s l i)
  | [], i, _ => rfl
  | p :: l, i, h => by
    rw [kvC_cons]
    unfold mfind kvGet
    rw [sB_beq hs (h p (by simp))]
    by_cases e : s = p.1
    · rw [if_pos e, if_pos (by simpa using e)]
    · rw [if_neg e, if_neg (by simpa using e)]
      exact mfind_kv s hs l (i + 1) fun q hq => h q (by simp [hq])
theorem kvGet_shift (s : List Int) : ∀ (l : List (List Int × Value)) (i j : Nat) (v : Value), kvGet s l (i + 1) = some (j, v) → ∃ j', j = j' + 1 ∧ kvGet s l i = some (j', v)
  | [], i, j, v, h => by cases h
  | p :: l, i, j, v, h => by
    unfold kvGet at h ⊢
    by_cases e : s = p.1
    · rw [if_pos e] at h ⊢
      cases h; exact ⟨i, rfl, rfl⟩
    · rw [if_neg e] at h ⊢
      exact kvGet_shift s l (i + 1) j v h
theorem kvPut_set (s : List Int) (u : Value) : ∀ (l : List (List Int × Value)) (j : Nat) (v : Value), kvGet s l 0 = some (j, v) → (kvC l).set (2 * j + 1) u = kvC (kvPut s u l)
  | [], j, v, h => by cases h
  | p :: l, j, v, h => by
    unfold kvGet at h
    unfold kvPut
    by_cases e : s = p.1
    · rw [if_pos e] at h ⊢
      cases h
      rw [kvC_cons, kvC_cons, e]; rfl
    · rw [if_neg e] at h ⊢
      obtain ⟨j', rfl, h'⟩ := kvGet_shift s l 0 j v h
      rw [kvC_cons, kvC_cons, ← kvPut_set s u l j' v h']
      rfl
theorem kvPut_app (s : List Int) (u : Value) : ∀ (l : List (List Int × Value)) (i : Nat), kvGet s l i = none → kvPut s u l = l ++ [(s, u)]
  | [], i, h => rfl
  | p :: l, i, h => by
    unfold kvGet at h
    unfold kvPut
    by_cases e : s = p.1
    · rw [if_pos e] at h; cases h
    · rw [if_neg e] at h ⊢
      rw [kvPut_app s u l (i + 1) h]; rfl
def KV (H : AH) (M : Nat) (l : List (List Int × Value)) : Prop := H.get M = some ⟨kvC l, 0, false, false⟩ ∧ M < H.n ∧ ∀ p ∈ l, Oct p.1
theorem KV.new (H : AH) : KV (H.push ⟨[], 0, false, false⟩) H.n [] := ⟨by rw [AH.get_push, if_pos rfl]; rfl, Nat.lt_succ_self _, fun p h => by simp at h⟩
theorem KV.ext {H H' : AH} {M : Nat} {l : List (List Int × Value)} (h : KV H M l) (x : HExt H H') : KV H' M l := ⟨(x.2 M h.2.1).trans h.1, Nat.lt_of_lt_of_le h.2.1 x.1, h.2.2⟩
def kvRes (o : Option (Nat × Value)) (z : Value) (c : Bool) : Value :=
  match o with
  | some p => lkRes p.2 true c
  | none => lkRes z false c
theorem KV.get {H : AH} {M : Nat} {l : List (List Int × Value)} (h : KV H M l) (s : List Int) (hs : Oct s) (z : Value) (c : Bool) : xmlk H z c (.map (some M)) (.string (sB s)) = some (kvRes (kvGet s l 0) z c, H) := by
  show (match H.get M with | some blk => (match mfind (sB s) blk.cells 0 with | some (some p) => some (lkRes p.2 true c, H) | some none => some (lkRes z false c, H) | none => none) | none => none) = _
  rw [h.1]
  simp only [mfind_kv s hs l 0 h.2.2]
  cases kvGet s l 0 <;> rfl
theorem KV.put {H : AH} {M : Nat} {l : List (List Int × Value)} (h : KV H M l) (s : List Int) (hs : Oct s) (u : Value) : xmup H (.map (some M)) (.string (sB s)) u = some (undef, H.set M ⟨kvC (kvPut s u l), 0, false, false⟩) ∧ KV (H.set M ⟨kvC (kvPut s u l), 0, false, false⟩) M (kvPut s u l) := by
  have ho : ∀ p ∈ kvPut s u l, Oct p.1 := by
    have : ∀ l : List (List Int × Value), (∀ p ∈ l, Oct p.1) → ∀ p ∈ kvPut s u l, Oct p.1 := by
      intro l
      induction l with
      | nil => intro _ p hp; simp [kvPut] at hp; subst hp; exact hs
      | cons q l ih =>
        intro hl p hp
        unfold kvPut at hp
        split at hp
        · rcases List.mem_cons.1 hp with rfl | hp
          · exact hs
          · exact hl p (by simp [hp])
        · rcases List.mem_cons.1 hp with rfl | hp
          · exact hl p (by simp)
          · exact ih (fun q hq => hl q (by simp [hq])) p hp
    exact this l h.2.2
  refine ⟨?_, by rw [AH.get_set, if_pos rfl], h.2.1, ho⟩
  show (match H.get M with | some blk => (match mfind (sB s) blk.cells 0 with | some (some p) => some (undef, H.set M { blk with cells := blk.cells.set (2 * p.1 + 1) u }) | some none => some (undef, H.set M { blk with cells := blk.cells ++ [Value.string (sB s), u] }) | none => none) | none => none) = _
  rw [h.1]
  simp only [mfind_kv s hs l 0 h.2.2]
  cases hg : kvGet s l 0 with
  | none =>
    rw [kvPut_app s u l 0 hg]
    have : kvC (l ++ [(s, u)]) = kvC l ++ [Value.string (sB s), u] := by simp [kvC]
    rw [this]
  | some p =>
    obtain ⟨j, v⟩ := p
    rw [← kvPut_set s u l j v hg]

/-! ### truths that differ -/
end Go.Det
