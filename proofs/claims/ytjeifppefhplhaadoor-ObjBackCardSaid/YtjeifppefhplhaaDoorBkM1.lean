/- What runs of the program's functions compute, on a heap of the run's own, and that the machine does what such a run says: the conditions stand in each theorem. -/
import Derived.Calls
import Derived.Orders
import Derived.LoopN
import Derived.Below
import Derived.Laws.World
import Derived.Laws.Cells
import Derived.Laws.IdiomStrings
namespace Go.Det

/-! ### maps by number -/
inductive Tr (α : Type) where
  | leaf
  | node (v : Option α) (l r : Tr α)

namespace Tr
variable {α : Type}
def get : Tr α → Nat → Option α
  | .leaf, _ => none
  | .node v l r, i => bif Nat.beq i 0 then v else bif Nat.beq (i % 2) 1 then l.get (i / 2) else r.get (i / 2 - 1)

def setF (v : Option α) : Nat → Tr α → Nat → Tr α
  | 0, t, _ => t
  | f + 1, .leaf, i =>
    bif Nat.beq i 0 then .node v .leaf .leaf
    else bif Nat.beq (i % 2) 1 then .node none (setF v f .leaf (i / 2)) .leaf
    else .node none .leaf (setF v f .leaf (i / 2 - 1))
  | f + 1, .node u l r, i =>
    bif Nat.beq i 0 then .node v l r
    else bif Nat.beq (i % 2) 1 then .node u (setF v f l (i / 2)) r
    else .node u l (setF v f r (i / 2 - 1))

def set (t : Tr α) (i : Nat) (v : Option α) : Tr α := setF v (i + 1) t i

theorem beq_eq {a b : Nat} : Nat.beq a b = decide (a = b) := by
  by_cases h : a = b
  · subst h; simp
  · rw [decide_eq_false h]; exact Bool.eq_false_iff.2 fun h' => h (Nat.eq_of_beq_eq_true h')

theorem get_leaf (i : Nat) : (Tr.leaf : Tr α).get i = none := rfl

theorem get_node (v : Option α) (l r : Tr α) (i : Nat) : (Tr.node v l r).get i = if i = 0 then v else if i % 2 = 1 then l.get (i / 2) else r.get (i / 2 - 1) := by
  simp only [get, beq_eq]
  by_cases h : i = 0
  · simp [h]
  · by_cases h2 : i % 2 = 1 <;> simp [h, h2]

theorem get_setF (v : Option α) : ∀ (f : Nat) (t : Tr α) (i j : Nat), i < f → (setF v f t i).get j = if j = i then v else t.get j := by
  intro f
  induction f with
  | zero => intro t i j h; omega
  | succ f ih =>
    intro t i j h
    cases t with
    | leaf =>
      simp only [setF, beq_eq]
      by_cases h0 : i = 0
      · subst h0
        simp only [decide_true, cond_true, get_node, get_leaf]
        by_cases hj : j = 0 <;> simp [hj]
      · simp only [h0, decide_false, cond_false]
        by_cases h1 : i % 2 = 1
        · simp only [h1, decide_true, cond_true, get_node, get_leaf, ih _ _ _ (show i / 2 < f by omega)]
          by_cases hj : j = 0
          · have : ¬ j = i := by omega
            simp [hj]; intro h'; omega
          · by_cases hj1 : j % 2 = 1
            · simp only [hj, hj1, if_true, if_false]
              by_cases e : j = i
              · simp [e]
              · have : ¬ j / 2 = i / 2 := by omega
                simp [e, this]
            · have : ¬ j = i := by intro e; subst e; exact hj1 h1
              simp [hj, hj1, this]
        · simp only [h1, decide_false, cond_false, get_node, get_leaf, ih _ _ _ (show i / 2 - 1 < f by omega)]
          by_cases hj : j = 0
          · simp [hj]; intro h'; omega
          · by_cases hj1 : j % 2 = 1
            · have : ¬ j = i := by intro e; subst e; exact h1 hj1
              simp [hj, hj1, this]
            · simp only [hj, hj1, if_false]
              by_cases e : j = i
              · simp [e]
              · have : ¬ j / 2 - 1 = i / 2 - 1 := by omega
                simp [e, this]
    | node u l r =>
      simp only [setF, beq_eq]
      by_cases h0 : i = 0
      · subst h0
        simp only [decide_true, cond_true, get_node]
        by_cases hj : j = 0 <;> simp [hj]
      · simp only [h0, decide_false, cond_false]
        by_cases h1 : i % 2 = 1
        · simp only [h1, decide_true, cond_true, get_node, ih _ _ _ (show i / 2 < f by omega)]
          by_cases hj : j = 0
          · simp [hj]; intro h'; omega
          · by_cases hj1 : j % 2 = 1
            · simp only [hj, hj1, if_true, if_false]
              by_cases e : j = i
              · simp [e]
              · have : ¬ j / 2 = i / 2 := by omega
                simp [e, this]
            · have : ¬ j = i := by intro e; subst e; exact hj1 h1
              simp [hj, hj1, this]
        · simp only [h1, decide_false, cond_false, get_node, ih _ _ _ (show i / 2 - 1 < f by omega)]
          by_cases hj : j = 0
          · simp [hj]; intro h'; omega
          · by_cases hj1 : j % 2 = 1
            · have : ¬ j = i := by intro e; subst e; exact h1 hj1
              simp [hj, hj1, this]
            · simp only [hj, hj1, if_false]
              by_cases e : j = i
              · simp [e]
              · have : ¬ j / 2 - 1 = i / 2 - 1 := by omega
                simp [e, this]

theorem get_set (t : Tr α) (i j : Nat) (v : Option α) : (t.set i v).get j = if j = i then v else t.get j := get_setF v _ t i j (by omega)
end Tr

/-! ### frames: the slots that are known -/
abbrev Fr := List (Nat × Value)
namespace Fr
def get : Fr → Nat → Option Value
  | [], _ => none
  | p :: r, i => bif Nat.beq p.1 i then some p.2 else get r i
def put : Fr → Nat → Value → Fr
  | [], d, v => [(d, v)]
  | p :: r, d, v => bif Nat.beq p.1 d then (d, v) :: r else bif Nat.blt d p.1 then (d, v) :: p :: r else p :: put r d v
def has : List Nat → Nat → Bool
  | [], _ => false
  | k :: ks, i => bif Nat.beq k i then true else has ks i
def keep : Fr → List Nat → Fr
  | [], _ => []
  | p :: r, ks => bif has ks p.1 then p :: keep r ks else keep r ks
def put? (fr : Fr) : Option Nat → Value → Fr
  | none, _ => fr
  | some d, v => fr.put d v

theorem get_put (fr : Fr) (d i : Nat) (v : Value) : (fr.put d v).get i = if i = d then some v else fr.get i := by
  induction fr with
  | nil =>
    simp only [put, get, Tr.beq_eq]
    by_cases h : i = d
    · simp [h]
    · have : ¬ d = i := fun e => h e.symm
      simp [h, this]
  | cons p r ih =>
    simp only [put, Tr.beq_eq]
    by_cases h1 : p.1 = d
    · simp only [h1, decide_true, cond_true, get, Tr.beq_eq]
      by_cases h : i = d
      · simp [h]
      · have : ¬ d = i := fun e => h e.symm
        simp [h, this]
    · simp only [h1, decide_false, cond_false]
      cases hb : Nat.blt d p.1
      · simp only [cond_false, get, Tr.beq_eq, ih]
        by_cases h : i = d
        · have : ¬ p.1 = i := by rw [h]; exact h1
          simp [h, h1]
        · simp [h]
      · simp only [cond_true, get, Tr.beq_eq]
        by_cases h : i = d
        · simp [h]
        · have : ¬ d = i := fun e => h e.symm
          simp [h, this]

theorem get_keep (fr : Fr) (ks : List Nat) (i : Nat) (v : Value) (h : (fr.keep ks).get i = some v) : fr.get i = some v := by
  induction fr with
  | nil => simp [keep, get] at h
  | cons p r ih =>
    simp only [keep] at h
    simp only [get, Tr.beq_eq] at *
    cases hb : has ks p.1
    · simp only [hb, cond_false] at h
      by_cases hp : p.1 = i
      · exfalso
        -- the key is not kept: no entry with it is left
        have key : ∀ (r : Fr), (r.keep ks).get i = none := by
          intro r
          induction r with
          | nil => rfl
          | cons q s ihs =>
            simp only [keep]
            cases hq : has ks q.1
            · simpa using ihs
            · simp only [cond_true, get, Tr.beq_eq]
              have : ¬ q.1 = i := by intro e; rw [e, ← hp, hb] at hq; exact absurd hq (by simp)
              simpa [this] using ihs
        rw [key] at h; simp at h
      · simp [hp, ih h]
    · simp only [hb, cond_true, get, Tr.beq_eq] at h
      by_cases hp : p.1 = i
      · simpa [hp] using h
      · simp only [hp, decide_false, cond_false] at h ⊢
        exact ih h

theorem get_put? (fr : Fr) (d : Option Nat) (i : Nat) (v : Value) : (fr.put? d v).get i = if d = some i then some v else fr.get i := by
  cases d with
  | none => simp [put?]
  | some d =>
    simp only [put?, get_put]
    by_cases h : i = d
    · simp [h]
    · have : ¬ d = i := fun e => h e.symm
      simp [h, this]
end Fr

/-! ### the heap -/
structure Blk where
  cells : List Value
  sz : Nat
  opn : Bool
  ro : Bool

structure AH where
  n : Nat
  t : Tr Blk
namespace AH
def get (H : AH) (b : Nat) : Option Blk := H.t.get b
def set (H : AH) (b : Nat) (x : Blk) : AH := ⟨H.n, H.t.set b (some x)⟩
def kill (H : AH) (b : Nat) : AH := ⟨H.n, H.t.set b none⟩
def push (H : AH) (x : Blk) : AH := ⟨H.n + 1, H.t.set H.n (some x)⟩
@[simp] theorem set_n (H : AH) (b : Nat) (x : Blk) : (H.set b x).n = H.n := rfl
@[simp] theorem kill_n (H : AH) (b : Nat) : (H.kill b).n = H.n := rfl
@[simp] theorem push_n (H : AH) (x : Blk) : (H.push x).n = H.n + 1 := rfl
theorem get_set (H : AH) (b c : Nat) (x : Blk) : (H.set b x).get c = if c = b then some x else H.get c := Tr.get_set _ _ _ _
theorem get_kill (H : AH) (b c : Nat) : (H.kill b).get c = if c = b then none else H.get c := Tr.get_set _ _ _ _
theorem get_push (H : AH) (c : Nat) (x : Blk) : (H.push x).get c = if c = H.n then some x else H.get c := Tr.get_set _ _ _ _
end AH

/-! ### values beside values -/
/-- Where a block of ours lies in the world. -/
structure Ent where
  b : Nat
  base : Nat
  size : Nat
  kn : Nat
  sz : Nat
  opn : Bool
  ro : Bool

structure Mp where
  f : Nat → Option Ent
  g : Nat → Option Nat
  h : Nat → Option Nat

def Ent.exact (e : Ent) (o c : Nat) : Prop := e.opn = false ∨ o + c * e.sz < e.kn

inductive VRel (m : Mp) : Value → Value → Prop where
  | bool (b : Bool) : VRel m (.bool b) (.bool b)
  | int (k : IntKind) (n : Int) : VRel m (.int k n) (.int k n)
  | float (k : FloatKind) (n : Nat) : VRel m (.float k n) (.float k n)
  | complex (k : FloatKind) (x y : Nat) : VRel m (.complex k x y) (.complex k x y)
  | string (s : ByteArray) : VRel m (.string s) (.string s)
  | nilp : VRel m (.pointer none) (.pointer none)
  | ptr (B o : Nat) (e : Ent) : m.f B = some e → VRel m (.pointer (some ⟨B, o, none⟩)) (.pointer (some ⟨e.b, e.base + o, none⟩))
  | nils : VRel m (.slice none 0 0) (.slice none 0 0)
  | sl (B o l c c' : Nat) (e : Ent) : m.f B = some e → 0 < c → l ≤ c → c ≤ c' → (e.exact o c → c' = c) → (¬ e.exact o c → e.base + o + c' * e.sz = e.size) → e.base + o + c' * e.sz ≤ e.size →
      VRel m (.slice (some ⟨B, o, none⟩) l c) (.slice (some ⟨e.b, e.base + o, none⟩) l c')
  | sl0 (B o c' : Nat) (a : Addr) (e : Ent) : m.f B = some e → (e.exact o 0 → c' = 0) → (¬ e.exact o 0 → e.base + o + c' * e.sz = e.size) → (c' ≠ 0 → a = ⟨e.b, e.base + o, none⟩) →
      VRel m (.slice (some ⟨B, o, none⟩) 0 0) (.slice (some a) 0 c')
  | slx (B o x l c : Nat) (e : Ent) : m.f B = some e → 0 < c → VRel m (.slice (some ⟨B, o, some x⟩) l c) (.slice (some ⟨e.b, e.base + o, none⟩) l c)
  | mapn : VRel m (.map none) (.map none)
  | mapp (B b : Nat) : m.g B = some b → VRel m (.map (some B)) (.map (some b))
  | chann : VRel m (.chan none) (.chan none)
  | bld (B b : Nat) : m.g B = some b → VRel m (.chan (some B)) (.pointer (some ⟨b, 0, none⟩))
  | func (fn : Fn) (xs ys xs' ys' : Array Value) : xs.size = xs'.size → (∀ i, i < xs.size → VRel m (xs.getD i undef) (xs'.getD i undef)) → ys.size = ys'.size →
      (∀ i, i < ys.size → VRel m (ys.getD i undef) (ys'.getD i undef)) → VRel m (.func fn xs ys) (.func fn xs' ys')
  | nilFunc : VRel m .nilFunc .nilFunc
  | iface (t : TypeId) (v v' : Value) : VRel m v v' → VRel m (.iface t v) (.iface t v')
  | nilIface : VRel m .nilIface .nilIface
  | agg (xs xs' : Array Value) : xs.size = xs'.size → (∀ i, i < xs.size → VRel m (xs.getD i undef) (xs'.getD i undef)) → VRel m (.agg xs) (.agg xs')
  | tuple (xs xs' : Array Value) : xs.size = xs'.size → (∀ i, i < xs.size → VRel m (xs.getD i undef) (xs'.getD i undef)) → VRel m (.tuple xs) (.tuple xs')

/-- Later maps: blocks stay where they are. -/
structure Mp.Ext (m m' : Mp) : Prop where
  fe : ∀ B e, m.f B = some e → m'.f B = some e
  ge : ∀ B b, m.g B = some b → m'.g B = some b
  he : ∀ k b, m.h k = some b → m'.h k = some b
instance {m m' : Mp} : CoeFun (m.Ext m') fun _ => ∀ B e, m.f B = some e → m'.f B = some e := ⟨fun h => h.fe⟩

theorem Mp.Ext.refl (m : Mp) : m.Ext m := ⟨fun _ _ h => h, fun _ _ h => h, fun _ _ h => h⟩
theorem Mp.Ext.trans {a b c : Mp} (h : a.Ext b) (k : b.Ext c) : a.Ext c := ⟨fun B e x => k B e (h B e x), fun B e x => k.ge B e (h.ge B e x), fun B e x => k.he B e (h.he B e x)⟩

theorem VRel.mono {m m' : Mp} (hx : m.Ext m') {v v' : Value} (h : VRel m v v') : VRel m' v v' := by
  induction h with
  | bool b => exact .bool b
  | int k n => exact .int k n
  | float k n => exact .float k n
  | complex k x y => exact .complex k x y
  | string s => exact .string s
  | nilp => exact .nilp
  | ptr B o e he => exact .ptr B o e (hx B e he)
  | nils => exact .nils
  | sl B o l c c' e he h0 h1 h2 h3 h4 h5 => exact .sl B o l c c' e (hx B e he) h0 h1 h2 h3 h4 h5
  | sl0 B o c' a e he h1 h2 h3 => exact .sl0 B o c' a e (hx B e he) h1 h2 h3
  | slx B o x l c e he h0 => exact .slx B o x l c e (hx B e he) h0
  | mapn => exact .mapn
  | mapp B b hb => exact .mapp B b (hx.ge B b hb)
  | chann => exact .chann
  | bld B b hb => exact .bld B b (hx.ge B b hb)
  | func fn xs ys xs' ys' h1 _ h3 _ ih1 ih2 => exact .func fn _ _ _ _ h1 ih1 h3 ih2
  | nilFunc => exact .nilFunc
  | iface t v v' _ ih => exact .iface t _ _ ih
  | nilIface => exact .nilIface
  | agg xs xs' h1 _ ih => exact .agg _ _ h1 ih
  | tuple xs xs' h1 _ ih => exact .tuple _ _ h1 ih

/-! ### values without addresses -/
def flatD : Nat → Value → Bool
  | 0, _ => false
  | d + 1, v => match v with
    | .bool _ | .int _ _ | .float _ _ | .complex _ _ _ | .string _ | .pointer none | .slice none 0 0 | .map none | .chan none | .nilFunc | .nilIface => true
    | .iface _ v => flatD d v
    | .agg xs | .tuple xs => xs.toList.all (flatD d)
    | .func _ xs ys => xs.toList.all (flatD d) && ys.toList.all (flatD d)
    | _ => false

theorem getD_mem {xs : Array Value} {i : Nat} (h : i < xs.size) : xs.getD i undef ∈ xs.toList := by
  simp [Array.getD, h]

theorem flatD_refl (m : Mp) : ∀ (d : Nat) (v : Value), flatD d v = true → VRel m v v := by
  intro d
  induction d with
  | zero => intro v h; simp [flatD] at h
  | succ d ih =>
    intro v h
    unfold flatD at h
    split at h
    case h_1 => exact .bool _
    case h_2 => exact .int _ _
    case h_3 => exact .float _ _
    case h_4 => exact .complex _ _ _
    case h_5 => exact .string _
    case h_6 => exact .nilp
    case h_7 => exact .nils
    case h_8 => exact .mapn
    case h_9 => exact .chann
    case h_10 => exact .nilFunc
    case h_11 => exact .nilIface
    case h_12 => exact .iface _ _ _ (ih _ h)
    case h_13 => exact .agg _ _ rfl fun i hi => ih _ (List.all_eq_true.1 h _ (getD_mem hi))
    case h_14 => exact .tuple _ _ rfl fun i hi => ih _ (List.all_eq_true.1 h _ (getD_mem hi))
    case h_15 =>
      simp only [Bool.and_eq_true] at h
      exact .func _ _ _ _ _ rfl (fun i hi => ih _ (List.all_eq_true.1 h.1 _ (getD_mem hi))) rfl (fun i hi => ih _ (List.all_eq_true.1 h.2 _ (getD_mem hi)))
    case h_16 => simp at h

theorem arr_ext {xs ys : Array Value} (hs : xs.size = ys.size) (h : ∀ i, i < xs.size → xs.getD i undef = ys.getD i undef) : xs = ys := by
  apply Array.ext hs
  intro i h1 h2
  have := h i h1
  simpa [Array.getD, h1, h2] using this

theorem flatD_eq {m : Mp} : ∀ (d : Nat) (v v' : Value), flatD d v = true → VRel m v v' → v = v' := by
  intro d
  induction d with
  | zero => intro v v' h; simp [flatD] at h
  | succ d ih =>
    intro v v' h hr
    cases hr with
    | ptr => simp [flatD] at h
    | sl => simp [flatD] at h
    | sl0 => simp [flatD] at h
    | slx => simp [flatD] at h
    | mapp => simp [flatD] at h
    | bld => simp [flatD] at h
    | iface t v v' hv => rw [ih _ _ (by simpa [flatD] using h) hv]
    | agg xs xs' hs hx =>
      rw [arr_ext hs fun i hi => ih _ _ (List.all_eq_true.1 (by simpa only [flatD] using h) _ (getD_mem hi)) (hx i hi)]
    | tuple xs xs' hs hx =>
      rw [arr_ext hs fun i hi => ih _ _ (List.all_eq_true.1 (by simpa only [flatD] using h) _ (getD_mem hi)) (hx i hi)]
    | func fn xs ys xs' ys' h1 hx h2 hy =>
      have h' : xs.toList.all (flatD d) = true ∧ ys.toList.all (flatD d) = true := by simpa only [flatD, Bool.and_eq_true] using h
      rw [arr_ext h1 fun i hi => ih _ _ (List.all_eq_true.1 h'.1 _ (getD_mem hi)) (hx i hi), arr_ext h2 fun i hi => ih _ _ (List.all_eq_true.1 h'.2 _ (getD_mem hi)) (hy i hi)]
    | _ => rfl

end Go.Det

set_option linter.unusedSimpArgs false
set_option linter.unusedVariables false
namespace Go.Det

/-- the cells of a block are not frozen -/
def Thaw (fz : Nat × Nat) (n : Nat) : Prop := fz.1 ≤ fz.2 ∧ ∀ o, o < n → ¬ (fz.1 ≤ o ∧ o < fz.2)

structure BlkAt (m : Mp) (base : Nat) (blk : Blk) (e : Ent) (w : World) : Prop where
  kn : e.kn = blk.cells.length
  sz : e.sz = blk.sz
  opn : e.opn = blk.opn
  ro : e.ro = blk.ro
  at_ : ∃ (c : Array Value) (t : TypeId) (fz : Nat × Nat), w.heap[e.b]? = some (.cells c t fz) ∧ c.size = e.size ∧ e.base + e.kn ≤ e.size ∧
    (∀ i v, blk.cells[i]? = some v → ∃ v', c[e.base + i]? = some v' ∧ VRel m v v') ∧
    (e.ro = false → base ≤ e.b ∧ Thaw fz c.size)

/-- The entries of a map beside a list of keys and values, one behind the other; keys have no address. -/
def MapAt (m : Mp) (cs : List Value) (es : Array MapEntry) : Prop :=
  cs.length = 2 * es.size ∧ ∀ (i : Nat) (e : MapEntry), es[i]? = some e → cs[2 * i]? = some e.key ∧ flatD 4 e.key = true ∧ ∃ v, cs[2 * i + 1]? = some v ∧ VRel m v e.val
theorem MapAt.mono {m m' : Mp} (hx : m.Ext m') {cs : List Value} {es : Array MapEntry} (h : MapAt m cs es) : MapAt m' cs es :=
  ⟨h.1, fun i e he => let ⟨a, b, v, c, d⟩ := h.2 i e he; ⟨a, b, v, c, d.mono hx⟩⟩

/-- a block of the machine that is an object of ours, or a builder's row -/
def OwnK (m : Mp) (k : Nat) : Prop := (∃ C, m.g C = some k) ∨ ∃ c, m.h k = some c
/-- A builder of texts: a block of two cells; its bytes lie in a row of its own. -/
def BldAt (m : Mp) (base : Nat) (cs : List Value) (w : World) (b : Nat) : Prop :=
  ∃ (T e : Nat) (p v : Value) (bs : List Value), cs = .int .i64 (T : Int) :: .int .i64 (e : Int) :: bs ∧ w.heap[b]? = some (.cells #[p, v] T (0, 0)) ∧ (p = .pointer none ∨ p = .pointer (some ⟨b, 0, none⟩)) ∧
    ((v = .slice none 0 0 ∧ bs = []) ∨ ∃ g cap cur, v = .slice (some ⟨g, 0, none⟩) bs.length cap ∧ base ≤ g ∧ w.heap[g]? = some (.cells cur e (0, 0)) ∧ bs.length ≤ cap ∧ cap ≤ maxLen ∧ cur.size = cap ∧ cur.toList.take bs.length = bs ∧ g ≠ b ∧ m.h g = some b)
/-- An object: a map, a builder, or a builder that has been read. -/
def ObjAt (m : Mp) (base : Nat) (blk : Blk) (w : World) (b : Nat) : Prop :=
  (blk.sz = 0 ∧ ∃ es clock, w.heap[b]? = some (.map es clock) ∧ MapAt m blk.cells es) ∨ (blk.sz = 1 ∧ BldAt m base blk.cells w b) ∨ (blk.sz = 2 ∧ blk.cells = [.int .i64 0])
theorem BldAt.keep {m m' : Mp} {base : Nat} {cs : List Value} {w w' : World} {b B : Nat} (h : BldAt m base cs w b) (hB : m.g B = some b) (hk : ∀ k, OwnK m k → w'.heap[k]? = w.heap[k]?) (hx : m.Ext m') : BldAt m' base cs w' b := by
  obtain ⟨T, e, p, v, bs, h1, h2, h3, h4⟩ := h
  refine ⟨T, e, p, v, bs, h1, by rw [hk b (.inl ⟨B, hB⟩)]; exact h2, h3, ?_⟩
  rcases h4 with h4 | ⟨g, cap, cur, k1, k2, k3, k4, k5, k6, k7, k8, hC⟩
  · exact .inl h4
  · exact .inr ⟨g, cap, cur, k1, k2, by rw [hk g (.inr ⟨b, hC⟩)]; exact k3, k4, k5, k6, k7, k8, hx.he g b hC⟩
theorem ObjAt.keep {m m' : Mp} {base : Nat} {blk : Blk} {w w' : World} {b B : Nat} (h : ObjAt m base blk w b) (hB : m.g B = some b) (hk : ∀ k, OwnK m k → w'.heap[k]? = w.heap[k]?) (hx : m.Ext m') : ObjAt m' base blk w' b := by
  rcases h with ⟨h0, es, cl, h1, h2⟩ | ⟨h0, h1⟩ | h0
  · exact .inl ⟨h0, es, cl, by rw [hk b (.inl ⟨B, hB⟩)]; exact h1, h2.mono hx⟩
  · exact .inr (.inl ⟨h0, h1.keep hB hk hx⟩)
  · exact .inr (.inr h0)

structure HRel (G base : Nat) (W0 : World) (m : Mp) (H : AH) (w : World) : Prop where
  below : Go.RowKit.Below base W0 w
  bs : base ≤ w.heap.size
  live : ∀ B blk, H.get B = some blk → (∃ e, m.f B = some e ∧ BlkAt m base blk e w) ∨ ∃ b, m.g B = some b
  maps : ∀ B b, m.g B = some b → m.f B = none ∧ B < H.n ∧ base ≤ b ∧ (∀ C, m.g C = some b → C = B) ∧ (∀ C blk e, H.get C = some blk → m.f C = some e → e.b ≠ b) ∧ b < w.heap.size ∧ ∃ blk, H.get B = some blk ∧ ObjAt m base blk w b
  hid : ∀ k c, m.h k = some c → base ≤ k ∧ k < w.heap.size ∧ (∀ C blk e, H.get C = some blk → m.f C = some e → e.b ≠ k) ∧ ∀ C, m.g C ≠ some k
  dom : ∀ B e, m.f B = some e → B < H.n ∧ 0 < e.sz
  apart : ∀ B B' blk blk' e e', H.get B = some blk → H.get B' = some blk' → m.f B = some e → m.f B' = some e' → B ≠ B' → e.ro = false → e.b ≠ e'.b
  glob : G ≤ H.n ∧ ∀ g, g < G → ∃ e, m.f g = some e ∧ e.b = g ∧ e.base = 0

/-- a block of the machine that ours may write -/
def InIm (m : Mp) (H : AH) (k : Nat) : Prop := (∃ B blk e, H.get B = some blk ∧ m.f B = some e ∧ e.ro = false ∧ e.b = k) ∨ OwnK m k

/-- a block of the machine that ours stands for -/
def InAll (m : Mp) (H : AH) (k : Nat) : Prop := (∃ B blk e, H.get B = some blk ∧ m.f B = some e ∧ e.b = k) ∨ OwnK m k

structure Fut (m : Mp) (H : AH) (w : World) (m' : Mp) (H' : AH) (w' : World) : Prop where
  ext : m.Ext m'
  size : w.heap.size ≤ w'.heap.size
  n : H.n ≤ H'.n
  keep : ∀ k, k < w.heap.size → ¬ InIm m H k → w'.heap[k]? = w.heap[k]? ∧ ¬ InIm m' H' k
  old : ∀ B, B < H.n → m'.f B = m.f B ∧ (H.get B = none → H'.get B = none)
  all : ∀ k, k < w.heap.size → ¬ InAll m H k → ¬ InAll m' H' k

variable {G base : Nat} {W0 : World} {m : Mp} {H : AH} {w : World}

theorem Fut.refl (m : Mp) (H : AH) (w : World) : Fut m H w m H w :=
  ⟨.refl m, Nat.le_refl _, Nat.le_refl _, fun _ _ h => ⟨rfl, h⟩, fun _ _ => ⟨rfl, id⟩, fun _ _ h => h⟩

theorem Fut.trans {m1 m2 m3 : Mp} {H1 H2 H3 : AH} {w1 w2 w3 : World} (h : Fut m1 H1 w1 m2 H2 w2) (k : Fut m2 H2 w2 m3 H3 w3) : Fut m1 H1 w1 m3 H3 w3 :=
  ⟨h.ext.trans k.ext, Nat.le_trans h.size k.size, Nat.le_trans h.n k.n, fun i hi hn => by
    obtain ⟨a, b⟩ := h.keep i hi hn
    obtain ⟨c, d⟩ := k.keep i (Nat.lt_of_lt_of_le hi h.size) b
    exact ⟨c.trans a, d⟩, fun B hB => by
    obtain ⟨a, b⟩ := h.old B hB
    obtain ⟨c, d⟩ := k.old B (Nat.lt_of_lt_of_le hB h.n)
    exact ⟨c.trans a, fun x => d (b x)⟩, fun i hi hn => k.all i (Nat.lt_of_lt_of_le hi h.size) (h.all i hi hn)⟩

theorem HRel.at' (h : HRel G base W0 m H w) {B : Nat} {blk : Blk} {e : Ent} (hb : H.get B = some blk) (he : m.f B = some e) : BlkAt m base blk e w := by
  rcases h.live B blk hb with ⟨e', he', hk⟩ | ⟨b, hg⟩
  · rw [he] at he'; cases he'; exact hk
  · have := (h.maps B b hg).1
    rw [he] at this; cases this
theorem HRel.live' (h : HRel G base W0 m H w) {B : Nat} {blk : Blk} (hb : H.get B = some blk) (hx : ∃ e, m.f B = some e) : ∃ e, m.f B = some e ∧ BlkAt m base blk e w := by
  obtain ⟨e, he⟩ := hx
  exact ⟨e, he, h.at' hb he⟩
theorem VRel.ptr_f {B o : Nat} {x : Value} (h : VRel m (.pointer (some ⟨B, o, none⟩)) x) : ∃ e, m.f B = some e := by
  cases h with
  | ptr _ _ e he => exact ⟨e, he⟩
theorem VRel.sl_f {B o l c : Nat} {s : Option Nat} {x : Value} (h : VRel m (.slice (some ⟨B, o, s⟩) l c) x) : ∃ e, m.f B = some e := by
  cases h with
  | sl _ _ _ _ _ e he => exact ⟨e, he⟩
  | sl0 _ _ _ _ e he => exact ⟨e, he⟩
  | slx _ _ _ _ _ e he => exact ⟨e, he⟩

theorem HRel.objlt (h : HRel G base W0 m H w) {k : Nat} (hk : OwnK m k) : k < w.heap.size := by
  rcases hk with ⟨C, hC⟩ | ⟨c, hc⟩
  · exact (h.maps C k hC).2.2.2.2.2.1
  · exact (h.hid k c hc).2.1
theorem HRel.objne (h : HRel G base W0 m H w) {k : Nat} (hk : OwnK m k) {B : Nat} {blk : Blk} {e : Ent} (hB : H.get B = some blk) (he : m.f B = some e) : e.b ≠ k := by
  rcases hk with ⟨C, hC⟩ | ⟨c, hc⟩
  · exact (h.maps C k hC).2.2.2.2.1 B blk e hB he
  · exact (h.hid k c hc).2.2.1 B blk e hB he
theorem HRel.drew (h : HRel G base W0 m H w) : HRel G base W0 m H w.drew :=
  { below := h.below.drew, bs := h.bs, dom := h.dom, apart := h.apart, glob := h.glob
    live := fun B blk hb => (h.live B blk hb).imp (fun ⟨e, he, hk⟩ => ⟨e, he, { kn := hk.kn, sz := hk.sz, opn := hk.opn, ro := hk.ro, at_ := hk.at_ }⟩) id
    maps := h.maps, hid := h.hid }

theorem Fut.drew (m : Mp) (H : AH) (w : World) : Fut m H w m H w.drew :=
  ⟨.refl m, Nat.le_refl _, Nat.le_refl _, fun _ _ h => ⟨rfl, h⟩, fun _ _ => ⟨rfl, id⟩, fun _ _ h => h⟩

theorem HRel.congr {H' : AH} (h : HRel G base W0 m H w) (hn : H'.n = H.n) (hg : ∀ B, H'.get B = H.get B) : HRel G base W0 m H' w :=
  { below := h.below, bs := h.bs, live := fun B blk hb => h.live B blk (by rw [← hg]; exact hb)
    maps := fun B b hb => by
      obtain ⟨a1, a2, a3, a4, ap, al, blk, a5, a6⟩ := h.maps B b hb
      exact ⟨a1, by rw [hn]; exact a2, a3, a4, fun C bl e hC => ap C bl e ((hg C).symm.trans hC), al, blk, (hg B).trans a5, a6⟩
    hid := fun k c hk => by
      obtain ⟨a1, a2, a3, a4⟩ := h.hid k c hk
      exact ⟨a1, a2, fun C bl e hC => a3 C bl e ((hg C).symm.trans hC), a4⟩
    dom := fun B e he => by rw [hn]; exact h.dom B e he
    apart := fun B B' blk blk' e e' h1 h2 => h.apart B B' blk blk' e e' (by rw [← hg]; exact h1) (by rw [← hg]; exact h2), glob := by rw [hn]; exact h.glob }

theorem HRel.lt (h : HRel G base W0 m H w) {B : Nat} {blk : Blk} (hb : H.get B = some blk) : B < H.n := by
  rcases h.live B blk hb with ⟨e, he, _⟩ | ⟨b, hg⟩
  · exact (h.dom B e he).1
  · exact (h.maps B b hg).2.1

theorem HRel.b_lt (h : HRel G base W0 m H w) {B : Nat} {blk : Blk} {e : Ent} (hb : H.get B = some blk) (he : m.f B = some e) : e.b < w.heap.size := by
  have hk := h.at' hb he
  obtain ⟨c', t', fz', hw, _⟩ := hk.at_
  rcases Nat.lt_or_ge e.b w.heap.size with hl | hl
  · exact hl
  · rw [Array.getElem?_eq_none hl] at hw; simp at hw

/-- the known cell of a block, in the world -/
theorem HRel.cell (h : HRel G base W0 m H w) {B o : Nat} {blk : Blk} {v : Value} (hb : H.get B = some blk) (ho : blk.cells[o]? = some v) {e : Ent} (he : m.f B = some e) :
    ∃ v', w.cell? ⟨e.b, e.base + o, none⟩ = some v' ∧ VRel m v v' := by
  have hk := h.at' hb he
  obtain ⟨c, t, fz, hw, hs, hl, hc, hf⟩ := hk.at_
  obtain ⟨v', h1, h2⟩ := hc o v ho
  exact ⟨v', by simp [World.cell?, hw, h1], h2⟩

/-- the pointer to a live block -/
theorem VRel.live_ptr (h : HRel G base W0 m H w) {B o : Nat} {blk : Blk} {x : Value} (hb : H.get B = some blk) (hx : VRel m (.pointer (some ⟨B, o, none⟩)) x) :
    ∃ e, m.f B = some e ∧ BlkAt m base blk e w ∧ x = .pointer (some ⟨e.b, e.base + o, none⟩) := by
  obtain ⟨e, he, hk⟩ := h.live' hb hx.ptr_f
  cases hx with
  | ptr _ _ e' he' =>
    rw [he] at he'; cases he'
    exact ⟨e, he, hk, rfl⟩

theorem setCell_heap (w : World) (a : Addr) (ha : a.spot = none) (v : Value) (c : Array Value) (t : TypeId) (fz : Nat × Nat) (h : w.heap[a.block]? = some (.cells c t fz)) :
    (w.setCell a v).heap[a.block]? = some (.cells (c.setIfInBounds a.off v) t fz) := by
  simp [World.setCell, Array.getElem?_modify, h, ha]

theorem setCell_heap_ne (w : World) (a : Addr) (v : Value) (k : Nat) (hk : k ≠ a.block) : (w.setCell a v).heap[k]? = w.heap[k]? := by
  simp only [World.setCell, Array.getElem?_modify]
  rw [if_neg (fun e => hk e.symm)]

theorem InIm.set {B : Nat} {blk : Blk} {cs : List Value} (hb : H.get B = some blk) {k : Nat} (h : InIm m (H.set B { blk with cells := cs }) k) : InIm m H k := by
  rcases h with ⟨C, blk', e, h1, h2, h3, h4⟩ | h
  · rw [AH.get_set] at h1
    by_cases hC : C = B
    · subst hC; exact .inl ⟨C, blk, e, hb, h2, h3, h4⟩
    · simp [hC] at h1; exact .inl ⟨C, blk', e, h1, h2, h3, h4⟩
  · exact .inr h

/-- a store into a known cell -/
theorem HRel.store (h : HRel G base W0 m H w) {B o : Nat} {blk : Blk} {v v' : Value} (hb : H.get B = some blk) (ho : o < blk.cells.length) (hro : blk.ro = false)
    {e : Ent} (he : m.f B = some e) (hv : VRel m v v') :
    HRel G base W0 m (H.set B { blk with cells := blk.cells.set o v }) (w.setCell ⟨e.b, e.base + o, none⟩ v') ∧
    (∃ u, w.cell? ⟨e.b, e.base + o, none⟩ = some u) ∧ w.frozen? ⟨e.b, e.base + o, none⟩ = false := by
  have hk := h.at' hb he
  obtain ⟨c, t, fz, hw, hs, hl, hc, hf⟩ := hk.at_
  have hero : e.ro = false := by rw [hk.ro]; exact hro
  obtain ⟨hbase, hnf⟩ := hf hero
  have hin : e.base + o < c.size := by rw [hs]; have := hk.kn; omega
  refine ⟨?_, ?_, ?_⟩
  · refine { below := h.below.setCell (p := ⟨e.b, e.base + o, none⟩) hbase _, bs := by simpa using h.bs, dom := h.dom, apart := ?_, glob := h.glob, live := ?_, maps := ?_, hid := ?_ }
    · intro B' blk' hb'
      rw [AH.get_set] at hb'
      by_cases hB : B' = B
      · subst hB
        simp at hb'; subst hb'
        refine .inl ⟨e, he, { kn := by simpa using hk.kn, sz := hk.sz, opn := hk.opn, ro := hk.ro, at_ := ?_ }⟩
        refine ⟨_, t, fz, setCell_heap w ⟨e.b, e.base + o, none⟩ rfl v' c t fz hw, by simpa using hs, hl, ?_, ?_⟩
        · intro i u hi
          rw [List.getElem?_set] at hi
          by_cases hio : o = i
          · subst hio
            simp [ho] at hi; subst hi
            exact ⟨v', by simp [hin], hv⟩
          · simp [hio] at hi
            obtain ⟨u', h1, h2⟩ := hc i u hi
            refine ⟨u', ?_, h2⟩
            rw [Array.getElem?_setIfInBounds_ne (by simpa using hio)]; exact h1
        · intro _; exact ⟨hbase, by simpa using hnf⟩
      · simp [hB] at hb'
        rcases h.live B' blk' hb' with ⟨e2, he2, hk2⟩ | hg
        case inr => exact .inr hg
        have hne : e2.b ≠ e.b := fun x => h.apart B B' blk blk' e e2 hb hb' he he2 (fun y => hB y.symm) hero x.symm
        refine .inl ⟨e2, he2, { kn := hk2.kn, sz := hk2.sz, opn := hk2.opn, ro := hk2.ro, at_ := ?_ }⟩
        rw [setCell_heap_ne _ _ _ _ (by simpa using hne)]
        exact hk2.at_
    · intro C b hg
      obtain ⟨a1, a2, a3, a4, ap, al, blk2, a5, a6⟩ := h.maps C b hg
      have hCB : C ≠ B := fun x => by subst x; rw [he] at a1; cases a1
      refine ⟨a1, a2, a3, a4, fun D bl e2 hD he2 => ?_, by simpa using al, blk2, by rw [AH.get_set, if_neg hCB]; exact a5, a6.keep hg (fun k hD => setCell_heap_ne _ _ _ _ (fun x => h.objne hD hb he x.symm)) (.refl m)⟩
      rw [AH.get_set] at hD
      by_cases hDB : D = B
      · subst hDB; exact ap D blk e2 hb he2
      · rw [if_neg hDB] at hD; exact ap D bl e2 hD he2
    · intro k c hk2
      obtain ⟨a1, a2, a3, a4⟩ := h.hid k c hk2
      refine ⟨a1, by simpa using a2, fun D bl e2 hD he2 => ?_, a4⟩
      rw [AH.get_set] at hD
      by_cases hDB : D = B
      · subst hDB; exact a3 D blk e2 hb he2
      · rw [if_neg hDB] at hD; exact a3 D bl e2 hD he2
    · intro C C' b1 b2 e1 e2 h1 h2 g1 g2 hne hro1
      have key : ∀ C b, (H.set B { blk with cells := blk.cells.set o v }).get C = some b → ∃ b', H.get C = some b' := by
        intro C b hC
        rw [AH.get_set] at hC
        by_cases hCB : C = B
        · subst hCB; exact ⟨blk, hb⟩
        · simp [hCB] at hC; exact ⟨b, hC⟩
      obtain ⟨b1', k1⟩ := key _ _ h1
      obtain ⟨b2', k2⟩ := key _ _ h2
      exact h.apart C C' b1' b2' e1 e2 k1 k2 g1 g2 hne hro1
  · exact ⟨c[e.base + o], by simp [World.cell?, hw, hin]⟩
  · simp only [World.frozen?, hw]
    have := hnf.2 _ hin
    simp only [Bool.and_eq_false_iff, decide_eq_false_iff_not]
    omega

/-- what a store leaves as it was -/
theorem Fut.of_store {B : Nat} {blk : Blk} {cs : List Value} {e : Ent} {w' : World} (hb : H.get B = some blk) (he : m.f B = some e) (hero : e.ro = false) (ho : ∀ k, k ≠ e.b → w'.heap[k]? = w.heap[k]?) (hs : w'.heap.size = w.heap.size) :
    Fut m H w m (H.set B { blk with cells := cs }) w' :=
  ⟨.refl m, Nat.le_of_eq hs.symm, Nat.le_refl _, fun k _ hn => ⟨ho k (fun x => hn (.inl ⟨B, blk, e, hb, he, hero, x.symm⟩)), fun x => hn (InIm.set hb x)⟩, fun C _ => ⟨rfl, fun hC => by
    rw [AH.get_set]
    by_cases hCB : C = B
    · subst hCB; rw [hb] at hC; simp at hC
    · simp [hCB, hC]⟩, fun k _ hn => fun hx => hn (by
    rcases hx with ⟨C, b2, e2, g1, g2, g3⟩ | hx
    · rw [AH.get_set] at g1
      by_cases hCB : C = B
      · subst hCB; exact .inl ⟨C, blk, e2, hb, g2, g3⟩
      · simp [hCB] at g1; exact .inl ⟨C, b2, e2, g1, g2, g3⟩
    · exact .inr hx)⟩

/-- a new block -/
def Mp.set (m : Mp) (B : Nat) (e : Ent) : Mp := ⟨fun C => if C = B then some e else m.f C, m.g, m.h⟩

theorem Mp.ext_set {m : Mp} {B : Nat} (e : Ent) (h : m.f B = none) : m.Ext (m.set B e) := ⟨fun C e' hC => by
  by_cases hCB : C = B
  · subst hCB; rw [h] at hC; simp at hC
  · simp [Mp.set, hCB, hC], fun _ _ h => h, fun _ _ h => h⟩

theorem HRel.fresh (h : HRel G base W0 m H w) : m.f H.n = none := by
  cases hf : m.f H.n with
  | none => rfl
  | some e => have := (h.dom H.n e hf).1; omega

theorem HRel.push (h : HRel G base W0 m H w) (cs : List Value) (c : Array Value) (t : TypeId) (fz : Nat × Nat) (sz : Nat) (opn ro : Bool) (hsz : 0 < sz)
    (hlen : cs.length ≤ c.size) (hc : ∀ (i : Nat) (v : Value), cs[i]? = some v → ∃ v', c[i]? = some v' ∧ VRel m v v')
    (hfz : Thaw fz c.size) :
    HRel G base W0 (m.set H.n ⟨w.heap.size, 0, c.size, cs.length, sz, opn, ro⟩) (H.push ⟨cs, sz, opn, ro⟩) { w with heap := w.heap.push (.cells c t fz) } ∧
    Fut m H w (m.set H.n ⟨w.heap.size, 0, c.size, cs.length, sz, opn, ro⟩) (H.push ⟨cs, sz, opn, ro⟩) { w with heap := w.heap.push (.cells c t fz) } := by
  have hext := m.ext_set ⟨w.heap.size, 0, c.size, cs.length, sz, opn, ro⟩ h.fresh
  have hheap : ∀ k, k < w.heap.size → (w.heap.push (.cells c t fz))[k]? = w.heap[k]? := fun k hk => by rw [Array.getElem?_push, if_neg (by omega)]
  refine ⟨{ below := (h.below.alloc h.bs _), bs := by simpa using Nat.le_succ_of_le h.bs, dom := ?_, apart := ?_, glob := ?_, live := ?_, maps := ?_, hid := ?_ }, ?_⟩
  · intro B blk hb
    rw [AH.get_push] at hb
    by_cases hB : B = H.n
    · subst hB
      simp at hb; subst hb
      refine .inl ⟨⟨w.heap.size, 0, c.size, cs.length, sz, opn, ro⟩, by simp [Mp.set], { kn := rfl, sz := rfl, opn := rfl, ro := rfl, at_ := ⟨c, t, fz, by simp, rfl, by simpa using hlen, ?_, fun _ => ⟨h.bs, hfz⟩⟩ }⟩
      intro i v hi
      obtain ⟨v', h1, h2⟩ := hc i v hi
      exact ⟨v', by simpa using h1, h2.mono hext⟩
    · simp [hB] at hb
      rcases h.live B blk hb with ⟨e, he, hk⟩ | hg
      case inr => exact .inr hg
      refine .inl ⟨e, by simp [Mp.set, hB, he], { kn := hk.kn, sz := hk.sz, opn := hk.opn, ro := hk.ro, at_ := ?_ }⟩
      have hl := h.b_lt hb he
      obtain ⟨c', t', fz', hw, h1, h2, h3, h4⟩ := hk.at_
      exact ⟨c', t', fz', by rw [hheap _ hl]; exact hw, h1, h2, fun i v hi => let ⟨v', a, b⟩ := h3 i v hi; ⟨v', a, b.mono hext⟩, h4⟩
  · intro C b hg
    obtain ⟨a1, a2, a3, a4, ap, al, blk2, a5, a6⟩ := h.maps C b hg
    have hC : C ≠ H.n := by omega
    refine ⟨by simp [Mp.set, hC, a1], by simp; omega, a3, a4, fun D bl e2 hD he2 => ?_, by simp; omega, blk2, by rw [AH.get_push, if_neg hC]; exact a5, a6.keep hg (fun k hD => hheap _ (h.objlt hD)) hext⟩
    rw [AH.get_push] at hD
    simp only [Mp.set] at he2
    by_cases hDn : D = H.n
    · simp [hDn] at he2; subst he2
      show w.heap.size ≠ b
      omega
    · simp [hDn] at hD he2; exact ap D bl e2 hD he2
  · intro k c hk2
    obtain ⟨a1, a2, a3, a4⟩ := h.hid k c hk2
    refine ⟨a1, by simp; omega, fun D bl e2 hD he2 => ?_, a4⟩
    rw [AH.get_push] at hD
    simp only [Mp.set] at he2
    by_cases hDn : D = H.n
    · simp [hDn] at he2; subst he2
      show w.heap.size ≠ k
      omega
    · simp [hDn] at hD he2; exact a3 D bl e2 hD he2
  · intro B e he
    simp only [Mp.set] at he
    by_cases hB : B = H.n
    · simp [hB] at he; subst he; simp [hB, hsz]
    · simp [hB] at he; have := h.dom B e he; exact ⟨by simp; omega, this.2⟩
  · intro B B' b1 b2 e e' g1 g2 he he' hne hro
    rw [AH.get_push] at g1 g2
    simp only [Mp.set] at he he'
    by_cases hB : B = H.n
    · by_cases hB' : B' = H.n
      · omega
      · simp [hB] at he; simp [hB'] at he' g2; subst he
        have := h.b_lt g2 he'
        show w.heap.size ≠ e'.b
        omega
    · simp [hB] at he g1
      by_cases hB' : B' = H.n
      · simp [hB'] at he'; subst he'
        have := h.b_lt g1 he
        show e.b ≠ w.heap.size
        omega
      · simp [hB'] at he' g2
        exact h.apart B B' b1 b2 e e' g1 g2 he he' hne hro
  · refine ⟨Nat.le_trans h.glob.1 (by simp), fun g hg => ?_⟩
    have hgn : ¬ g = H.n := by have := h.glob.1; omega
    simp only [Mp.set, hgn, if_false]
    exact h.glob.2 g hg
  · refine ⟨hext, by simp, by simp, fun k hk hn => ⟨hheap k hk, ?_⟩, fun B hB => ?_, fun k hk hn => ?_⟩
    · rintro (⟨B, blk, e, g1, g2, g3, g4⟩ | hx)
      · rw [AH.get_push] at g1
        simp only [Mp.set] at g2
        by_cases hB : B = H.n
        · simp [hB] at g2; subst g2; simp at g4; omega
        · simp [hB] at g1 g2
          exact hn (.inl ⟨B, blk, e, g1, g2, g3, g4⟩)
      · exact hn (.inr hx)
    · have hBn : ¬ B = H.n := by omega
      exact ⟨by simp [Mp.set, hBn], fun x => by rw [AH.get_push]; simp [hBn, x]⟩
    · rintro (⟨B, blk, e, g1, g2, g4⟩ | hx)
      · rw [AH.get_push] at g1
        simp only [Mp.set] at g2
        by_cases hB : B = H.n
        · simp [hB] at g2; subst g2; simp at g4; omega
        · simp [hB] at g1 g2
          exact hn (.inl ⟨B, blk, e, g1, g2, g4⟩)
      · exact hn (.inr hx)

/-- a block that is given up -/
theorem HRel.kill (h : HRel G base W0 m H w) (B : Nat) (hgB : m.g B = none) : HRel G base W0 m (H.kill B) w := by
  have key : ∀ C b, (H.kill B).get C = some b → H.get C = some b := by
    intro C b hC
    rw [AH.get_kill] at hC
    by_cases hCB : C = B
    · simp [hCB] at hC
    · simpa [hCB] using hC
  exact { below := h.below, bs := h.bs, live := fun C blk hb => h.live C blk (key C blk hb), dom := h.dom
          apart := fun C C' b1 b2 e e' g1 g2 => h.apart C C' b1 b2 e e' (key _ _ g1) (key _ _ g2), glob := h.glob
          hid := fun k c hk2 => by
            obtain ⟨a1, a2, a3, a4⟩ := h.hid k c hk2
            exact ⟨a1, a2, fun D bl e2 hD => a3 D bl e2 (key D bl hD), a4⟩
          maps := fun C b hg => by
            obtain ⟨a1, a2, a3, a4, ap, al, blk2, a5, a6⟩ := h.maps C b hg
            exact ⟨a1, a2, a3, a4, fun D bl e2 hD => ap D bl e2 (key D bl hD), al, blk2, by rw [AH.get_kill, if_neg (fun x => by subst x; rw [hgB] at hg; cases hg)]; exact a5, a6⟩ }

theorem Fut.kill (m : Mp) (H : AH) (w : World) (B : Nat) : Fut m H w m (H.kill B) w :=
  ⟨.refl m, Nat.le_refl _, Nat.le_refl _, fun k _ hn => ⟨rfl, fun hx => hn (hx.imp (fun ⟨C, blk, e, g1, g2⟩ => ⟨C, blk, e, by
    rw [AH.get_kill] at g1
    by_cases hCB : C = B
    · simp [hCB] at g1
    · simpa [hCB] using g1, g2⟩) id)⟩, fun C _ => ⟨rfl, fun hC => by rw [AH.get_kill]; simp [hC]⟩, fun k _ hn => fun hx => hn (hx.imp (fun ⟨C, blk, e, g1, g2⟩ => ⟨C, blk, e, by
    rw [AH.get_kill] at g1
    by_cases hCB : C = B
    · simp [hCB] at g1
    · simpa [hCB] using g1, g2⟩) id)⟩

/-! ### frames beside frames -/
def FrRel (m : Mp) (fr : Fr) (tmps : Array Value) : Prop := ∀ i v, fr.get i = some v → ∃ v', tmps[i]? = some v' ∧ VRel m v v'

theorem FrRel.mono {m m' : Mp} (hx : m.Ext m') {fr : Fr} {tmps : Array Value} (h : FrRel m fr tmps) : FrRel m' fr tmps :=
  fun i v hi => let ⟨v', a, b⟩ := h i v hi; ⟨v', a, b.mono hx⟩

theorem FrRel.put {fr : Fr} {tmps : Array Value} (h : FrRel m fr tmps) {d : Nat} (hd : d < tmps.size) {v v' : Value} (hv : VRel m v v') :
    FrRel m (fr.put d v) (tmps.setIfInBounds d v') := by
  intro i u hi
  rw [Fr.get_put] at hi
  by_cases e : i = d
  · subst e
    simp at hi; subst hi
    exact ⟨v', by simp [hd], hv⟩
  · simp [e] at hi
    obtain ⟨u', h1, h2⟩ := h i u hi
    exact ⟨u', by rw [Array.getElem?_setIfInBounds_ne (fun e' => e e'.symm)]; exact h1, h2⟩

theorem FrRel.keep {fr : Fr} {tmps : Array Value} (h : FrRel m fr tmps) (ks : List Nat) : FrRel m (fr.keep ks) tmps :=
  fun i v hi => h i v (Fr.get_keep fr ks i v hi)

end Go.Det

namespace Go.Det

/-! ### operations -/
inductive XOp where
  | mov (x : Operand)
  | pick (c a b : Operand)
  | new (t : TypeId) (sz : Nat) (zs : List Value)
  | box (t : TypeId) (sz : Nat) (x : Operand)
  | build (zs : List Value) (ps : List (Nat × Nat × Operand))
  | bslice (e : TypeId) (sz n : Nat) (zs : List Value) (ps : List (Nat × Operand))
  | ld (n : Option Nat) (a : Operand)
  | st (n : Nat) (a v : Operand)
  | nilck (x : Operand)
  | bin (op : BinOp) (x y : Operand)
  | isnil (neg : Bool) (c : Value) (x : Operand)
  | conv (k : IntKind) (x : Operand)
  | s2b (e : TypeId) (x : Operand)
  | b2s (x : Operand)
  | cvs (x : Operand)
  | fld (off : Nat) (n : Option Nat) (x : Operand)
  | fldA (off : Nat) (x : Operand)
  | idxA (sz : Nat) (x i : Operand)
  | idxAA (len sz : Nat) (x i : Operand)
  | idxV (len sz : Nat) (n : Option Nat) (x i : Operand)
  | mks (e : TypeId) (sz bytes : Nat) (zs : List Value) (l c : Operand)
  | slc (sz : Nat) (x : Operand) (lo hi mx : Option Operand)
  | slcA (len sz : Nat) (x : Operand) (lo hi mx : Option Operand)
  | len (x : Operand)
  | lens (x : Operand)
  | cap (x : Operand)
  | app (e : TypeId) (sz bytes : Nat) (zs : List Value) (x y : Operand)
  | appN (e : TypeId) (sz bytes : Nat) (zs : List Value) (x y : Operand)
  | copy (sz : Nat) (x y : Operand)
  | clr (sz : Nat) (zs : List Value) (x : Operand)
  | mkm
  | mkb (t e : TypeId)
  | mlk (z : Value) (ok : Bool) (x k : Operand)
  | mup (x k v : Operand)
  | mkf (fn : Fn) (first caps : List Operand)
  | ext (x : Operand) (i : Nat)
  | mkI (t : TypeId) (x : Operand)
  | flat (op : Op) (ty : TypeId)
  | call (f : FuncId) (args : List Operand)
  | callv (x : Operand) (args : List Operand)
  deriving Inhabited

def ev (fr : Fr) : Operand → Option Value
  | .tmp t => fr.get t
  | .const v => some v
  | .global g => some (.pointer (some ⟨g, 0, none⟩))
  | .func f => some (.func (.func f) #[] #[])

def evs (fr : Fr) : List Operand → Option (List Value)
  | [] => some []
  | x :: xs => match ev fr x, evs fr xs with
    | some v, some vs => some (v :: vs)
    | _, _ => none

def vcells : Value → List Value
  | .agg cs => cs.toList
  | v => [v]

def one : Value → Bool
  | .agg _ | .tuple _ => false
  | _ => true

/-- what runs without memory -/
def pureRun {α : Type} (P : Program) : Sem α → Option α
  | .pure a => some a
  | .program k => pureRun P (k P)
  | .mark _ k => pureRun P k
  | _ => none

theorem pureRun_run {α : Type} (P : Program) (w : World) : ∀ (s : Sem α) (a : α), pureRun P s = some a → s.run P w = .ok a w
  | .pure b, a, h => by simp [pureRun] at h; simp [h]
  | .program k, a, h => by simp only [pureRun] at h; simp only [Sem.run]; exact pureRun_run P w (k P) a h
  | .mark _ k, a, h => by simp only [pureRun] at h; simp only [Sem.run]; exact pureRun_run P w k a h
  | .load .., _, h | .store .., _, h | .new .., _, h | .shape .., _, h | .freeze .., _, h | .frozen .., _, h | .getObj .., _, h | .setObj .., _, h | .choose .., _, h | .sys .., _, h | .halt _, _, h => by simp [pureRun] at h

def ibin (op : BinOp) (k : IntKind) (x y : Int) : Option Value :=
  match op with
  | .add => some (.int k (k.wrap (x + y)))
  | .sub => some (.int k (k.wrap (x - y)))
  | .mul => some (.int k (k.wrap (x * y)))
  | .quo => if y = 0 then none else some (.int k (k.wrap (x.tdiv y)))
  | .rem => if y = 0 then none else some (.int k (x.tmod y))
  | .and => some (.int k (k.wrap (BitVec.ofInt k.bits x &&& BitVec.ofInt k.bits y).toNat))
  | .or => some (.int k (k.wrap (BitVec.ofInt k.bits x ||| BitVec.ofInt k.bits y).toNat))
  | .xor => some (.int k (k.wrap (BitVec.ofInt k.bits x ^^^ BitVec.ofInt k.bits y).toNat))
  | .andNot => some (.int k (k.wrap (BitVec.ofInt k.bits x &&& ~~~ BitVec.ofInt k.bits y).toNat))
  | .eql => some (.bool (x == y))
  | .neq => some (.bool (x != y))
  | .lss => some (.bool (x < y))
  | .leq => some (.bool (x ≤ y))
  | .gtr => some (.bool (x > y))
  | .geq => some (.bool (x ≥ y))
  | _ => none

def sbin (op : BinOp) (x y : ByteArray) : Option Value :=
  match op with
  | .add => if ((x.size + y.size : Nat) : Int) > IntKind.i64.max then none else some (.string (x ++ y))
  | .eql => some (.bool (x.toList == y.toList))
  | .neq => some (.bool !(x.toList == y.toList))
  | .lss => some (.bool (Op.bytesLess x.toList y.toList))
  | .leq => some (.bool (Op.bytesLess x.toList y.toList || x.toList == y.toList))
  | .gtr => some (.bool !(Op.bytesLess x.toList y.toList || x.toList == y.toList))
  | .geq => some (.bool !(Op.bytesLess x.toList y.toList))
  | _ => none

def xbin (op : BinOp) (a b : Value) : Option Value :=
  match a, b with
  | .int k x, .int k' y => match op with
    | .shl => if y < 0 then none else some (.int k (k.wrap (x * 2 ^ (min y.toNat k.bits))))
    | .shr => if y < 0 then none else some (.int k (x.fdiv (2 ^ (min y.toNat k.bits))))
    | op => if k = k' then ibin op k x y else none
  | .string x, .string y => sbin op x y
  | _, _ => none

def xisnil (c v : Value) : Option Bool :=
  match c, v with
  | .pointer none, .pointer a => some a.isNone
  | .slice none 0 0, .slice a _ _ => some a.isNone
  | .map none, .map a => some a.isNone
  | .nilFunc, .nilFunc => some true
  | .nilFunc, .func _ _ _ => some false
  | .nilIface, .nilIface => some true
  | .nilIface, .iface _ _ => some false
  | _, _ => none

/-- put values over cells -/
def splice (cs : List Value) (off : Nat) (vs : List Value) : List Value := cs.take off ++ vs ++ cs.drop (off + vs.length)

def xfill (fr : Fr) : List (Nat × Nat × Operand) → List Value → Option (List Value)
  | [], cs => some cs
  | (off, n, x) :: ps, cs => match ev fr x with
    | some v => let vs := vcells v
      bif Nat.beq vs.length n && Nat.ble (off + n) cs.length && vs.all one then xfill fr ps (splice cs off vs) else none
    | none => none

def rep : Nat → List Value → List Value
  | 0, _ => []
  | n + 1, zs => zs ++ rep n zs

def optEv (fr : Fr) : Option Operand → Option (Option Value)
  | none => some none
  | some x => match ev fr x with
    | some v => some (some v)
    | none => none

def natOf (d : Nat) : Option Value → Option Nat
  | none => some d
  | some (.int _ (.ofNat n)) => some n
  | _ => none

/-- the bytes of a string, as cells -/
def strCells (s : ByteArray) : List Value := s.data.toList.map fun b => .int .u8 b.toNat

/-- the cells of a slice or string: so many elements -/
def src (H : AH) (sz n : Nat) : Value → Option (List Value)
  | .slice none _ _ => bif Nat.beq n 0 then some [] else none
  | .slice (some ⟨B, o, none⟩) l _ => match H.get B with
    | some blk => bif Nat.ble n l && Nat.ble (o + n * sz) blk.cells.length && ((blk.cells.drop o).take (n * sz)).all one then some ((blk.cells.drop o).take (n * sz)) else none
    | none => bif Nat.beq n 0 then some [] else none
  | .string s => bif Nat.beq sz 1 && Nat.beq n s.size then some (strCells s) else none
  | _ => none

def srcLen : Value → Option Nat
  | .slice _ l _ => some l
  | .string s => some s.size
  | _ => none

/-- cells behind those of a slice -/
def xappC (H : AH) (sz bytes n : Nat) (cs : List Value) (x : Value) : Option (Value × AH) :=
  match x with
  | .slice none 0 0 =>
    bif Nat.beq n 0 then some (x, H)
    else bif Nat.ble (n * bytes) 140737488355328 && Nat.ble 1 bytes then some (.slice (some ⟨H.n, 0, none⟩) n n, H.push ⟨cs, sz, true, false⟩)
    else none
  | .slice (some ⟨B, o, none⟩) l c =>
    match H.get B with
    | none => none
    | some blk =>
      bif !(Nat.beq blk.sz sz) || !(Nat.ble l c) || !(Nat.ble (o + c * sz) blk.cells.length) || !(Nat.ble 1 sz) then none else
      bif Nat.beq n 0 then some (x, H)
      else bif Nat.ble (l + n) c then
        bif blk.ro then none else
        some (.slice (some ⟨B, o, none⟩) (l + n) c, H.set B { blk with cells := splice blk.cells (o + l * sz) cs })
      else bif !(Nat.ble ((l + n) * bytes) 140737488355328 && Nat.ble 1 bytes) then none
      else bif !blk.opn || Nat.blt (o + c * sz) blk.cells.length then
        some (.slice (some ⟨H.n, 0, none⟩) (l + n) (l + n), H.push ⟨(blk.cells.drop o).take (l * sz) ++ cs, sz, true, false⟩)
      else bif blk.ro then none else
        some (.slice (some ⟨H.n, 0, none⟩) (l + n) (l + n), (H.kill B).push ⟨(blk.cells.drop o).take (l * sz) ++ cs, sz, true, false⟩)
  | _ => none

def xapp (H : AH) (sz bytes : Nat) (x y : Value) : Option (Value × AH) :=
  match srcLen y with
  | none => none
  | some n => match src H sz n y with
    | none => none
    | some cs => xappC H sz bytes n cs x

/-- so many zeros behind those of a slice -/
def xappN (H : AH) (sz bytes : Nat) (zs : List Value) (x y : Value) : Option (Value × AH) :=
  match y with
  | .int _ (.ofNat n) => bif Nat.ble (n * bytes) 140737488355328 && Nat.ble n 140737488355328 && (rep n zs).all one then xappC H sz bytes n (rep n zs) x else none
  | _ => none

def xcopy (H : AH) (sz : Nat) (x y : Value) : Option (Value × AH) :=
  match srcLen y with
  | none => none
  | some m =>
    match x with
    | .slice none 0 0 => some (.int .i64 0, H)
    | .slice (some ⟨B, o, none⟩) l _ =>
      let n := Nat.min m l
      match H.get B, src H sz n (match y with | .string s => .string (s.extract 0 n) | y => y) with
      | some blk, some cs =>
        bif !blk.ro && Nat.ble (o + l * sz) blk.cells.length then some (.int .i64 (Int.ofNat n), H.set B { blk with cells := splice blk.cells o cs }) else none
      | _, _ => none
    | _ => none

def xclr (H : AH) (sz : Nat) (zs : List Value) (x : Value) : Option (Value × AH) :=
  match x with
  | .slice none 0 0 => some (.tuple #[], H)
  | .slice (some ⟨B, o, none⟩) l _ => match H.get B with
    | some blk => bif !blk.ro && Nat.ble (o + l * sz) blk.cells.length && (rep l zs).all one then some (.tuple #[], H.set B { blk with cells := splice blk.cells o (rep l zs) }) else none
    | none => none
  | _ => none

/-- the place of a text among keys and values, one behind the other, and its value -/
def mfind (s : ByteArray) : List Value → Nat → Option (Option (Nat × Value))
  | [], _ => some none
  | .string t :: v :: r, i => if s == t then some (some (i, v)) else mfind s r (i + 1)
  | _, _ => none

def lkRes (v : Value) (b c : Bool) : Value := bif c then .tuple #[v, .bool b] else v

def xmlk (H : AH) (z : Value) (c : Bool) (x k : Value) : Option (Value × AH) :=
  match x, k with
  | .map none, .string _ => some (lkRes z false c, H)
  | .map (some B), .string s => match H.get B with
    | some blk => match mfind s blk.cells 0 with
      | some (some p) => some (lkRes p.2 true c, H)
      | some none => some (lkRes z false c, H)
      | none => none
    | none => none
  | _, _ => none

def xmup (H : AH) (x k v : Value) : Option (Value × AH) :=
  match x, k with
  | .map (some B), .string s => match H.get B with
    | some blk => match mfind s blk.cells 0 with
      | some (some p) => some (undef, H.set B { blk with cells := blk.cells.set (2 * p.1 + 1) v })
      | some none => some (undef, H.set B { blk with cells := blk.cells ++ [.string s, v] })
      | none => none
    | none => none
  | _, _ => none

def isSomeV : Option Value → Bool
  | some _ => true
  | none => false

def xslc (H : AH) (sz : Nat) (x : Value) (lo hi mx : Option Value) : Option Value :=
  match x with
  | .slice none 0 0 => match natOf 0 lo, natOf 0 hi, natOf 0 mx with
    | some 0, some 0, some 0 => some x
    | _, _, _ => none
  | .slice (some ⟨B, o, none⟩) l c => match H.get B with
    | none => bif Nat.beq l 0 && Nat.beq c 0 && !(isSomeV mx) then match natOf 0 lo, natOf 0 hi with
      | some 0, some 0 => some (.slice (some ⟨B, o, none⟩) l c)
      | _, _ => none
      else none
    | some blk => match natOf c mx with
      | none => none
      | some m => match natOf l hi with
        | none => none
        | some h => match natOf 0 lo with
          | none => none
          | some i => bif Nat.beq blk.sz sz && Nat.ble i h && Nat.ble h m && Nat.ble m c && (!(isSomeV mx) || !blk.opn || Nat.blt (o + m * sz) blk.cells.length) then some (.slice (some ⟨B, o + i * sz, none⟩) (h - i) (m - i)) else
            bif Nat.beq blk.sz sz && Nat.ble i h && Nat.ble h m && Nat.ble m c && isSomeV mx && Nat.blt i m then some (.slice (some ⟨B, o + i * sz, some 0⟩) (h - i) (m - i)) else none
  | _ => none

def xslcA (H : AH) (len sz : Nat) (x : Value) (lo hi mx : Option Value) : Option Value :=
  match x with
  | .pointer (some ⟨B, o, none⟩) => match H.get B with
    | none => none
    | some blk => match natOf len mx with
      | none => none
      | some m => match natOf len hi with
        | none => none
        | some h => match natOf 0 lo with
          | none => none
          | some i => bif Nat.beq blk.sz sz && Nat.ble i h && Nat.ble h m && Nat.ble m len && Nat.ble (o + len * sz) blk.cells.length && (!blk.opn || Nat.blt (o + m * sz) blk.cells.length) then some (.slice (some ⟨B, o + i * sz, none⟩) (h - i) (m - i)) else none
  | _ => none

def partV (cs : List Value) (off : Nat) : Option Nat → Option Value
  | none => cs[off]?
  | some n => bif Nat.ble (off + n) cs.length then some (.agg ((cs.drop off).take n).toArray) else none

def flatOper (op : Op) (ty : TypeId) : Oper := ⟨none, op, ty, "", #[], none⟩

def evFlat (fr : Fr) (x : Operand) : Bool :=
  match ev fr x with
  | some v => flatD 4 v
  | none => false

def isU8 : Value → Bool
  | .int .u8 _ => true
  | _ => false

def u8Of : Value → UInt8
  | .int _ n => UInt8.ofNat n.toNat
  | _ => 0

def xflat (P : Program) (fr : Fr) (op : Op) (ty : TypeId) : Option Value :=
  bif op.operands.all (evFlat fr) then
    match pureRun P (execOp (fun x => (ev fr x).getD undef) (flatOper op ty)) with
    | some (.value v) => bif flatD 4 v then some v else none
    | _ => none
  else none

def isSome' : Option Operand → Bool
  | some _ => true
  | none => false

def xop (P : Program) (fr : Fr) (H : AH) : XOp → Option (Value × AH)
  | .mov x => match ev fr x with
    | some v => some (v, H)
    | none => none
  | .pick c a b => match ev fr c with
    | some (.bool true) => match ev fr a with
      | some v => some (v, H)
      | none => none
    | some (.bool false) => match ev fr b with
      | some v => some (v, H)
      | none => none
    | _ => none
  | .new _ sz zs => some (.pointer (some ⟨H.n, 0, none⟩), H.push ⟨zs, sz, false, false⟩)
  | .box _ sz x => match ev fr x with
    | some v => some (.pointer (some ⟨H.n, 0, none⟩), H.push ⟨vcells v, sz, false, false⟩)
    | none => none
  | .build zs ps => match xfill fr ps zs with
    | some cs => some (.agg cs.toArray, H)
    | none => none
  | .bslice _ sz n zs ps => match xfill fr (ps.map fun p => (p.1 * sz, sz, p.2)) (rep n zs) with
    | some cs => some (.slice (some ⟨H.n, 0, none⟩) n n, H.push ⟨cs, sz, false, false⟩)
    | none => none
  | .ld n a => match ev fr a with
    | some (.pointer (some ⟨B, o, none⟩)) => match H.get B with
      | some blk => match partV blk.cells o n with
        | some v => some (v, H)
        | none => none
      | none => none
    | _ => none
  | .st n a x => match ev fr a, ev fr x with
    | some (.pointer (some ⟨B, o, none⟩)), some v => match H.get B with
      | some blk =>
        let vs := vcells v
        bif Nat.beq vs.length n && vs.all one && !blk.ro && Nat.ble (o + n) blk.cells.length then some (undef, H.set B { blk with cells := splice blk.cells o vs }) else none
      | none => none
    | _, _ => none
  | .nilck x => match ev fr x with
    | some (.pointer (some a)) => some (.pointer (some a), H)
    | some (.func (.func f) xs ys) => some (.func (.func f) xs ys, H)
    | _ => none
  | .bin op x y => match ev fr x, ev fr y with
    | some a, some b => match xbin op a b with
      | some v => some (v, H)
      | none => none
    | _, _ => none
  | .isnil neg c x => match ev fr x with
    | some a => match xisnil c a with
      | some b => some (.bool (if neg then !b else b), H)
      | none => none
    | none => none
  | .conv k x => match ev fr x with
    | some (.int _ n) => some (.int k (k.wrap n), H)
    | _ => none
  | .s2b _ x => match ev fr x with
    | some (.string s) => some (.slice (some ⟨H.n, 0, none⟩) s.size s.size, H.push ⟨strCells s, 1, true, false⟩)
    | _ => none
  | .b2s x => match ev fr x with
    | some (.slice none _ _) => some (.string .empty, H)
    | some (.slice (some a) l c) => match src H 1 l (.slice (some a) l c) with
      | some cs => bif cs.all isU8 then some (.string ⟨(cs.map u8Of).toArray⟩, H) else none
      | none => none
    | _ => none
  | .cvs x => match ev fr x with
    | some (.slice (some ⟨B, o, none⟩) l c) => match H.get B with
      | some blk => bif blk.ro || !(Nat.blt 0 c) then none else some (.slice (some ⟨B, o, none⟩) l c, H)
      | none => none
    | _ => none
  | .fld off n x => match ev fr x with
    | some (.agg cs) => match partV cs.toList off n with
      | some v => some (v, H)
      | none => none
    | _ => none
  | .fldA off x => match ev fr x with
    | some (.pointer (some ⟨B, o, none⟩)) => some (.pointer (some ⟨B, o + off, none⟩), H)
    | _ => none
  | .idxA sz x i => match ev fr x, ev fr i with
    | some (.slice (some ⟨B, o, none⟩) l c), some (.int _ (.ofNat k)) =>
      bif Nat.blt k l && Nat.ble l c then some (.pointer (some ⟨B, o + k * sz, none⟩), H) else none
    | _, _ => none
  | .idxAA len sz x i => match ev fr x, ev fr i with
    | some (.pointer (some ⟨B, o, none⟩)), some (.int _ (.ofNat k)) =>
      bif Nat.blt k len then some (.pointer (some ⟨B, o + k * sz, none⟩), H) else none
    | _, _ => none
  | .idxV len sz n x i => match ev fr x, ev fr i with
    | some (.agg cs), some (.int _ (.ofNat k)) =>
      bif Nat.blt k len then match partV cs.toList (k * sz) n with
        | some v => some (v, H)
        | none => none
      else none
    | _, _ => none
  | .mks _ sz bytes zs l c => match ev fr l, ev fr c with
    | some (.int _ (.ofNat l)), some (.int _ (.ofNat c)) =>
      bif Nat.ble l c && Nat.ble (c * bytes) 140737488355328 && Nat.ble c 140737488355328 then some (.slice (some ⟨H.n, 0, none⟩) l c, H.push ⟨rep c zs, sz, false, false⟩) else none
    | _, _ => none
  | .slc sz x lo hi mx => match ev fr x, optEv fr lo, optEv fr hi, optEv fr mx with
    | some v, some a, some b, some c => bif isSome' mx && !(isSome' hi) then none else match xslc H sz v a b c with
      | some r => some (r, H)
      | none => none
    | _, _, _, _ => none
  | .slcA len sz x lo hi mx => match ev fr x, optEv fr lo, optEv fr hi, optEv fr mx with
    | some v, some a, some b, some c => bif isSome' mx && !(isSome' hi) then none else match xslcA H len sz v a b c with
      | some r => some (r, H)
      | none => none
    | _, _, _, _ => none
  | .len x => match ev fr x with
    | some (.slice _ l _) => some (.int .i64 (Int.ofNat l), H)
    | _ => none
  | .lens x => match ev fr x with
    | some (.string s) => some (.int .i64 (Int.ofNat s.size), H)
    | _ => none
  | .cap x => match ev fr x with
    | some (.slice none 0 0) => some (.int .i64 0, H)
    | some (.slice (some ⟨B, o, none⟩) _ c) => match H.get B with
      | some blk => bif !blk.opn || Nat.blt (o + c * blk.sz) blk.cells.length then some (.int .i64 (Int.ofNat c), H) else none
      | none => none
    | _ => none
  | .app _ sz bytes _ x y => match ev fr x, ev fr y with
    | some a, some b => xapp H sz bytes a b
    | _, _ => none
  | .appN _ sz bytes zs x y => match ev fr x, ev fr y with
    | some a, some b => xappN H sz bytes zs a b
    | _, _ => none
  | .clr sz zs x => match ev fr x with
    | some a => xclr H sz zs a
    | none => none
  | .mkm => some (.map (some H.n), H.push ⟨[], 0, false, false⟩)
  | .mkb t e => some (.chan (some H.n), H.push ⟨[.int .i64 (t : Int), .int .i64 (e : Int)], 1, false, false⟩)
  | .mlk z c x k => match ev fr x, ev fr k with
    | some a, some b => xmlk H z c a b
    | _, _ => none
  | .mup x k v => match ev fr x, ev fr k, ev fr v with
    | some a, some b, some u => xmup H a b u
    | _, _, _ => none
  | .copy sz x y => match ev fr x, ev fr y with
    | some a, some b => xcopy H sz a b
    | _, _ => none
  | .mkf fn first caps => match evs fr first, evs fr caps with
    | some a, some b => some (.func fn a.toArray b.toArray, H)
    | _, _ => none
  | .ext x i => match ev fr x with
    | some (.tuple vs) => match vs.toList[i]? with
      | some v => some (v, H)
      | none => none
    | _ => none
  | .mkI t x => match ev fr x with
    | some v => some (.iface t v, H)
    | none => none
  | .flat op ty => match xflat P fr op ty with
    | some v => some (v, H)
    | none => none
  | .call .. => none
  | .callv .. => none

/-! ### out of the program's operations -/
def okOpnd (G : Nat) : Operand → Bool
  | .const v => flatD 4 v
  | .global g => decide (g < G)
  | _ => true

def sizeAt (P : Program) (t : TypeId) : Option Nat := (P.info? t).map (·.size)

def aggSize (P : Program) (t : TypeId) : Option (Option Nat) :=
  match P.underlying t with
  | some (.struct _) | some (.array _ _) => (sizeAt P t).map some
  | some _ => some none
  | none => none

def zeroAt (P : Program) (t : TypeId) : Option (List Value) :=
  match P.info? t with
  | some i => match i.zero with
    | some z => bif (vcells z).all (flatD 4) then some (vcells z) else none
    | none => none
  | none => none

/-- the element size of a block of this type -/
def blkSz (P : Program) (t : TypeId) : Nat :=
  match P.underlying t with
  | some (.array _ e) => match sizeAt P e with
    | some (n + 1) => n + 1
    | _ => 1
  | _ => 1

def fieldsOff (P : Program) (fs : Array Field) : List (Nat × Operand) → Option (List (Nat × Nat × Operand))
  | [] => some []
  | (i, x) :: ps => match fs[i]? with
    | some f => match sizeAt P f.type, fieldsOff P fs ps with
      | some n, some r => some ((f.offset, n, x) :: r)
      | _, _ => none
    | none => none

/-- a nil of the type -/
def nilFits (P : Program) (t : TypeId) (c : Value) : Bool :=
  match P.underlying t, c with
  | some (.pointer _), .pointer none | some (.slice _), .slice none 0 0 | some (.map _ _), .map none | some (.func _ _ _), .nilFunc | some (.interface _), .nilIface => true
  | _, _ => false

def nilOf (P : Program) (t : TypeId) : Operand → Option Value
  | .const c => bif nilFits P t c then some c else none
  | _ => none

def isByte (P : Program) (t : TypeId) : Bool :=
  match P.underlying t with
  | some (.int .u8) => true
  | _ => false

def intOrStr (P : Program) (t : TypeId) : Bool :=
  match P.underlying t with
  | some (.int _) | some .string => true
  | _ => false

/-- a map's keys are texts -/
def strKey (P : Program) (t : TypeId) : Bool :=
  match P.underlying t with
  | some .string => true
  | _ => false

def zero1 (P : Program) (t : TypeId) : Option Value :=
  match P.info? t with
  | some i => match i.zero with
    | some z => bif flatD 4 z then some z else none
    | none => none
  | none => none

/-- the type of the bytes of a builder of texts -/
def bldOf (P : Program) (t : TypeId) : Option TypeId :=
  match P.info? t with
  | some i => match i.desc with
    | .named "strings.Builder" _ => match P.underlying t with
      | some (.struct fs) => match fs[1]? with
        | some f => match P.underlying f.type with
          | some (.slice e) => some e
          | _ => none
        | none => none
      | _ => none
    | _ => none
  | none => none
def cRaw (P : Program) (o : Oper) : Option XOp :=
  match o.op with
  | .move x | .assign x => some (.mov x)
  | .pick c a b => some (.pick c a b)
  | .alloc t => match zeroAt P t with
    | some zs => match bldOf P t with
      | some e => (match zs with
        | [.pointer none, .slice none 0 0] => some (.mkb t e)
        | _ => none)
      | none => some (.new t (blkSz P t) zs)
    | none => none
  | .box t x => some (.box t (blkSz P t) x)
  | .build t ps => match P.underlying t with
    | some (.struct fs) => match zeroAt P t, fieldsOff P fs ps.toList with
      | some zs, some l => bif fs.toList.all (fun f => (sizeAt P f.type).isSome) then some (.build zs l) else none
      | _, _ => none
    | some (.array _ e) => match zeroAt P t, sizeAt P e with
      | some zs, some n => some (.build zs (ps.toList.map fun p => (p.1 * n, n, p.2)))
      | _, _ => none
    | _ => none
  | .buildSlice t n ps => match P.underlying t with
    | some (.slice e) => match zeroAt P e, sizeAt P e with
      | some zs, some sz => bif Nat.ble (n * sz) 16777216 && Nat.beq zs.length sz && Nat.ble 1 sz then some (.bslice e sz n zs ps.toList) else none
      | _, _ => none
    | _ => none
  | .load t a => match aggSize P t with
    | some n => some (.ld n a)
    | none => none
  | .store t a x => match sizeAt P t with
    | some n => some (.st n a x)
    | none => none
  | .nilCheck x => some (.nilck x)
  | .binOp op t x y ty => match op with
    | .eql => match nilOf P t y with
      | some c => some (.isnil false c x)
      | none => bif intOrStr P t then some (.bin .eql x y) else some (.flat (.binOp op t x y ty) o.type)
    | .neq => match nilOf P t y with
      | some c => some (.isnil true c x)
      | none => bif intOrStr P t then some (.bin .neq x y) else some (.flat (.binOp op t x y ty) o.type)
    | op => some (.bin op x y)
  | .convert s d x => match P.underlying s, P.underlying d with
    | some (.int _), some (.int k) => some (.conv k x)
    | some .string, some (.slice e) => bif isByte P e then some (.s2b e x) else none
    | some (.slice e), some .string => bif isByte P e then some (.b2s x) else none
    | some (.slice _), some (.slice e) => bif Nat.beq s d && isByte P e then some (.cvs x) else none
    | _, _ => some (.flat (.convert s d x) o.type)
  | .field t x i => match P.underlying t with
    | some (.struct fs) => match fs[i]? with
      | some f => match aggSize P f.type with
        | some n => some (.fld f.offset n x)
        | none => none
      | none => none
    | _ => none
  | .fieldAddr t x i => match P.underlying t with
    | some (.struct fs) => match fs[i]? with
      | some f => match sizeAt P f.type with
        | some (_ + 1) => some (.fldA f.offset x)
        | _ => none
      | none => none
    | _ => none
  | .indexAddr t x i => match P.underlying t with
    | some (.slice e) => match sizeAt P e with
      | some sz => some (.idxA sz x i)
      | none => none
    | some (.array n e) => match sizeAt P e with
      | some sz => some (.idxAA n sz x i)
      | none => none
    | _ => none
  | .index t x i => match P.underlying t with
    | some (.array n e) => match sizeAt P e, aggSize P e with
      | some sz, some k => some (.idxV n sz k x i)
      | _, _ => none
    | _ => some (.flat (.index t x i) o.type)
  | .makeSlice t l c => match P.underlying t with
    | some (.slice e) => match zeroAt P e, P.info? e with
      | some zs, some i => bif Nat.beq zs.length i.size && Nat.ble 1 i.size then some (.mks e i.size i.bytes zs l c) else none
      | _, _ => none
    | _ => none
  | .slice t x lo hi mx => match P.underlying t with
    | some .string => some (.flat (.slice t x lo hi mx) o.type)
    | some (.slice e) => match sizeAt P e with
      | some sz => some (.slc sz x lo hi mx)
      | none => none
    | some (.array n e) => match sizeAt P e with
      | some sz => some (.slcA n sz x lo hi mx)
      | none => none
    | _ => none
  | .makeFunc fn first caps => some (.mkf fn first.toList caps.toList)
  | .extract x i => some (.ext x i)
  | .makeInterface t x => match P.underlying t with
    | some (.interface _) => none
    | some _ => some (.mkI t x)
    | none => none
  | .makeMap _ r => match r with
    | none => some .mkm
    | some _ => none
  | .lookup t x k c => match P.underlying t with
    | some (.map kt e) => match zero1 P e with
      | some z => bif strKey P kt then some (.mlk z c x k) else none
      | none => none
    | _ => none
  | .mapUpdate t x k v => match P.underlying t with
    | some (.map kt _) => bif strKey P kt then some (.mup x k v) else none
    | _ => none
  | .unOp op t x => some (.flat (.unOp op t x) o.type)
  | .typeAssert x s t c => some (.flat (.typeAssert x s t c) o.type)
  | .call c => match c.callee with
    | .value (.func f) => some (.call f c.args.toList)
    | .value x => some (.callv x c.args.toList)
    | .invoke .. => none
    | .builtin b => match b with
      | .len => match c.argTypes[0]?, c.args.toList with
        | some t, [x] => match P.underlying t with
          | some (.slice _) => some (.len x)
          | some .string => some (.lens x)
          | _ => some (.flat (.call c) o.type)
        | _, _ => none
      | .cap => match c.argTypes[0]?, c.args.toList with
        | some t, [x] => match P.underlying t with
          | some (.slice _) => some (.cap x)
          | _ => none
        | _, _ => none
      | .append => match c.argTypes[0]?, c.argTypes[1]?, c.args.toList with
        | some t, some u, [x, y] => match P.underlying t with
          | some (.slice e) => match zeroAt P e, P.info? e, P.underlying u with
            | some zs, some i, some (.int _) => bif Nat.beq zs.length i.size && Nat.ble 1 i.size then some (.appN e i.size i.bytes zs x y) else none
            | some zs, some i, some _ => bif Nat.beq zs.length i.size && Nat.ble 1 i.size then some (.app e i.size i.bytes zs x y) else none
            | _, _, _ => none
          | _ => none
        | _, _, _ => none
      | .copy => match c.argTypes[0]?, c.args.toList with
        | some t, [x, y] => match P.underlying t with
          | some (.slice e) => match sizeAt P e with
            | some sz => some (.copy sz x y)
            | none => none
          | _ => none
        | _, _ => none
      | .clear => match c.argTypes[0]?, c.args.toList with
        | some t, [x] => match P.underlying t with
          | some (.slice e) => match zeroAt P e, sizeAt P e with
            | some zs, some sz => bif Nat.beq zs.length sz then some (.clr sz zs x) else none
            | _, _ => none
          | _ => none
        | _, _ => none
      | .max | .min => some (.flat (.call c) o.type)
      | _ => none
  | _ => none

def cOp (P : Program) (o : Oper) : Option XOp :=
  bif o.op.operands.all (okOpnd P.globals.size) then cRaw P o else none

end Go.Det

set_option linter.unusedSimpArgs false
set_option linter.unusedVariables false
namespace Go.Det

variable {P : Program} {G base : Nat} {W0 : World} {m : Mp} {H : AH} {w : World} {fr : Fr} {a : Act}

def OpOk (P : Program) (G base : Nat) (W0 : World) (o : Oper) (a : Act) (w : World) (m : Mp) (H : AH) (v : Value) (H' : AH) : Prop :=
  ∃ m' v' w', ((execOp a.eval o).run P w = .ok (.value v') w' ∨ ((execOp a.eval o).run P w = .ok .skip w' ∧ v' = undef)) ∧
    HRel G base W0 m' H' w' ∧ Fut m H w m' H' w' ∧ VRel m' v v'

theorem OpOk.same {o : Oper} {v v' : Value} (hr : HRel G base W0 m H w) (he : (execOp a.eval o).run P w = .ok (.value v') w) (hv : VRel m v v') : OpOk P G base W0 o a w m H v H :=
  ⟨m, v', w, .inl he, hr, .refl m H w, hv⟩

theorem vrel_undef (m : Mp) : VRel m undef undef := .tuple _ _ rfl fun i hi => by simp at hi

theorem ev_sound (hr : HRel G base W0 m H w) (hf : FrRel m fr a.tmps) {x : Operand} {v : Value} (ho : okOpnd G x = true) (hx : ev fr x = some v) :
    VRel m v (a.eval x) := by
  cases x with
  | tmp t =>
    obtain ⟨v', h1, h2⟩ := hf t v hx
    have : a.eval (.tmp t) = v' := by simp [Act.eval, Array.getD_eq_getD_getElem?, h1]
    rw [this]; exact h2
  | const c =>
    simp only [ev, Option.some.injEq] at hx; subst hx
    exact flatD_refl m 4 c ho
  | global g =>
    simp only [ev, Option.some.injEq] at hx; subst hx
    have hg : g < G := by simpa [okOpnd] using ho
    show VRel m _ (.pointer (some ⟨g, 0, none⟩))
    obtain ⟨e, h1, h2, h3⟩ := hr.glob.2 g hg
    have hp := VRel.ptr (m := m) g 0 e h1
    rw [h2, h3] at hp
    exact hp
  | func f =>
    simp only [ev, Option.some.injEq] at hx; subst hx
    exact .func _ _ _ _ _ rfl (fun i hi => by simp at hi) rfl (fun i hi => by simp at hi)

theorem evs_sound (hr : HRel G base W0 m H w) (hf : FrRel m fr a.tmps) : ∀ (xs : List Operand) (vs : List Value), (∀ x ∈ xs, okOpnd G x = true) → evs fr xs = some vs →
    vs.length = xs.length ∧ ∀ i, i < vs.length → VRel m (vs.getD i undef) ((xs.map a.eval).getD i undef)
  | [], vs, _, h => by simp [evs] at h; subst h; simp
  | x :: xs, vs, ho, h => by
    simp only [evs] at h
    split at h
    · rename_i v vs' hv hvs
      simp only [Option.some.injEq] at h; subst h
      obtain ⟨h1, h2⟩ := evs_sound hr hf xs vs' (fun y hy => ho y (by simp [hy])) hvs
      refine ⟨by simp [h1], fun i hi => ?_⟩
      cases i with
      | zero => simpa using ev_sound hr hf (ho x (by simp)) hv
      | succ i => simpa using h2 i (by simpa using hi)
    · simp at h

theorem getD_toArray (l : List Value) (i : Nat) (d : Value) : l.toArray.getD i d = l.getD i d := by
  simp [Array.getD_eq_getD_getElem?, List.getD_eq_getElem?_getD]

/-- lists of values beside each other -/
def LRel (m : Mp) (xs ys : List Value) : Prop := xs.length = ys.length ∧ ∀ (i : Nat) (x : Value), xs[i]? = some x → ∃ y, ys[i]? = some y ∧ VRel m x y

theorem LRel.mono {m m' : Mp} (hx : m.Ext m') {xs ys : List Value} (h : LRel m xs ys) : LRel m' xs ys :=
  ⟨h.1, fun i x hi => let ⟨y, a, b⟩ := h.2 i x hi; ⟨y, a, b.mono hx⟩⟩

theorem LRel.nil : LRel m [] [] := ⟨rfl, fun i x h => by simp at h⟩

theorem LRel.append {xs ys xs' ys' : List Value} (h : LRel m xs xs') (k : LRel m ys ys') : LRel m (xs ++ ys) (xs' ++ ys') := by
  refine ⟨by simp [h.1, k.1], fun i x hi => ?_⟩
  rw [List.getElem?_append] at hi ⊢
  by_cases hl : i < xs.length
  · rw [if_pos hl] at hi; rw [if_pos (by rw [← h.1]; exact hl)]; exact h.2 i x hi
  · rw [if_neg hl] at hi; rw [if_neg (by rw [← h.1]; exact hl), ← h.1]; exact k.2 _ x hi

theorem LRel.take {xs ys : List Value} (h : LRel m xs ys) (n : Nat) : LRel m (xs.take n) (ys.take n) := by
  refine ⟨by simp [h.1], fun i x hi => ?_⟩
  rw [List.getElem?_take] at hi ⊢
  split at hi
  · rename_i hl; rw [if_pos hl]; exact h.2 i x hi
  · simp at hi

theorem LRel.drop {xs ys : List Value} (h : LRel m xs ys) (n : Nat) : LRel m (xs.drop n) (ys.drop n) := by
  refine ⟨by simp [h.1], fun i x hi => ?_⟩
  rw [List.getElem?_drop] at hi ⊢
  exact h.2 _ x hi

theorem LRel.splice {xs ys vs us : List Value} (h : LRel m xs ys) (k : LRel m vs us) (o : Nat) : LRel m (splice xs o vs) (splice ys o us) := by
  unfold Det.splice
  rw [← k.1]
  exact ((h.take o).append k).append (h.drop _)

theorem LRel.of_agg {xs ys : Array Value} (hs : xs.size = ys.size) (h : ∀ i, i < xs.size → VRel m (xs.getD i undef) (ys.getD i undef)) : LRel m xs.toList ys.toList := by
  refine ⟨by simpa using hs, fun i x hi => ?_⟩
  have hlt : i < xs.size := by
    rcases Nat.lt_or_ge i xs.size with hl | hl
    · exact hl
    · rw [List.getElem?_eq_none (by simpa using hl)] at hi; simp at hi
  have h1 := h i hlt
  have hx : xs.getD i undef = x := by simp [Array.getD_eq_getD_getElem?, Array.getElem?_eq_some_iff.2 ⟨hlt, rfl⟩] ; simpa [List.getElem?_eq_getElem, hlt] using hi
  have hy : i < ys.size := hs ▸ hlt
  refine ⟨ys[i], by simp [hy], ?_⟩
  rw [hx] at h1
  simpa [Array.getD, hy] using h1

theorem LRel.to_agg {xs ys : List Value} (h : LRel m xs ys) : VRel m (.agg xs.toArray) (.agg ys.toArray) := by
  refine .agg _ _ (by simpa using h.1) fun i hi => ?_
  have hi' : i < xs.length := by simpa using hi
  obtain ⟨y, h1, h2⟩ := h.2 i xs[i] (by simp [hi'])
  rw [getD_toArray, getD_toArray]
  simp only [List.getD_eq_getElem?_getD, h1, List.getElem?_eq_getElem hi', Option.getD_some]
  exact h2

theorem LRel.to_tuple {xs ys : List Value} (h : LRel m xs ys) : VRel m (.tuple xs.toArray) (.tuple ys.toArray) := by
  refine .tuple _ _ (by simpa using h.1) fun i hi => ?_
  have hi' : i < xs.length := by simpa using hi
  obtain ⟨y, h1, h2⟩ := h.2 i xs[i] (by simp [hi'])
  rw [getD_toArray, getD_toArray]
  simp only [List.getD_eq_getElem?_getD, h1, List.getElem?_eq_getElem hi', Option.getD_some]
  exact h2

theorem LRel.evs (hr : HRel G base W0 m H w) (hf : FrRel m fr a.tmps) {xs : List Operand} {vs : List Value} (ho : ∀ x ∈ xs, okOpnd G x = true) (h : evs fr xs = some vs) :
    LRel m vs (xs.map a.eval) := by
  obtain ⟨h1, h2⟩ := evs_sound hr hf xs vs ho h
  refine ⟨by simp [h1], fun i x hi => ?_⟩
  have hlt : i < vs.length := by
    rcases Nat.lt_or_ge i vs.length with hl | hl
    · exact hl
    · rw [List.getElem?_eq_none hl] at hi; simp at hi
  have hl2 : i < (xs.map a.eval).length := by simp [← h1, hlt]
  have := h2 i hlt
  simp only [List.getD_eq_getElem?_getD, hi, List.getElem?_eq_getElem hl2, Option.getD_some] at this
  exact ⟨_, List.getElem?_eq_getElem hl2, this⟩

/-- a value's cells -/
theorem vcells_rel {v v' : Value} (h : VRel m v v') : LRel m (vcells v) v'.cells.toList ∧ ((vcells v).all one = true → ∀ x ∈ v'.cells.toList, x.oneCell' = true) := by
  have key : ∀ x y, VRel m x y → one x = true → y.oneCell' = true := by
    intro x y hxy ho
    cases hxy <;> first | rfl | simp [one] at ho
  have single : ∀ x y : Value, VRel m x y → LRel m [x] [y] := fun x y hxy => ⟨rfl, fun i z hi => by
    cases i with
    | zero => simp at hi; subst hi; exact ⟨y, rfl, hxy⟩
    | succ i => simp at hi⟩
  have h' := h
  cases h with
  | agg xs ys hs hx =>
    have hl := LRel.of_agg hs hx
    refine ⟨hl, fun hall y hy => ?_⟩
    simp only [vcells] at hall
    obtain ⟨i, hi⟩ := List.getElem?_of_mem hy
    have hlt : i < xs.toList.length := by
      have := (List.getElem?_eq_some_iff.1 hi).1
      rw [hl.1]; exact this
    obtain ⟨y', h1, h2⟩ := hl.2 i _ (List.getElem?_eq_getElem hlt)
    change ys.toList[i]? = some y at hi
    rw [hi] at h1; simp at h1; subst h1
    exact key _ _ h2 (List.all_eq_true.1 hall _ (List.getElem_mem hlt))
  | _ =>
    refine ⟨single _ _ h', fun hall y hy => ?_⟩
    simp only [vcells, List.all_cons, List.all_nil, Bool.and_true] at hall
    simp [Value.cells] at hy
    subst hy
    first | rfl | (simp [one] at hall)

theorem addr_add (b o n : Nat) : (⟨b, o, none⟩ : Addr).add n = ⟨b, o + n, none⟩ := by
  unfold Addr.add
  split
  · rename_i h; subst h; rfl
  · rfl

theorem splice_nil (cs : List Value) (o : Nat) : splice cs o [] = cs := by simp [splice]

theorem splice_length (cs : List Value) (o : Nat) (vs : List Value) (h : o + vs.length ≤ cs.length) : (splice cs o vs).length = cs.length := by
  simp [splice]; omega

theorem splice_cons (cs : List Value) (o : Nat) (v : Value) (vs : List Value) (h : o + (vs.length + 1) ≤ cs.length) :
    splice (cs.set o v) (o + 1) vs = splice cs o (v :: vs) := by
  unfold splice
  apply List.ext_getElem?
  intro i
  simp only [List.getElem?_append, List.length_append, List.length_take, List.length_set, List.length_cons, List.getElem?_take, List.getElem?_drop, List.getElem?_set, List.getElem?_cons]
  rcases Nat.lt_trichotomy i o with hi | hi | hi
  · simp [show i < o + 1 by omega, show i < min (o + 1) cs.length by omega, show i < min o cs.length by omega, show ¬ o = i by omega, hi, show i < min (o+1) cs.length + vs.length by omega, show i < min o cs.length + (vs.length + 1) by omega]
  · subst hi
    simp [show min i cs.length = i by omega, show min (i + 1) cs.length = i + 1 by omega, show i < i + 1 + vs.length by omega, show i < cs.length by omega]
  · simp only [show min o cs.length = o by omega, show min (o + 1) cs.length = o + 1 by omega, show ¬ i < o by omega, show ¬ i < o + 1 by omega, if_false, show ¬ i - o = 0 by omega]
    by_cases h2 : i < o + 1 + vs.length
    · simp [h2, show i < o + (vs.length + 1) by omega, show i - (o + 1) = i - o - 1 by omega]
    · simp [h2, show ¬ i < o + (vs.length + 1) by omega, show ¬ o = o + 1 + vs.length + (i - (o + 1 + vs.length)) by omega]
      congr 1; omega

theorem run_storeCells_rel : ∀ (vs' vs : List Value) (i o : Nat) (B : Nat) (blk : Blk) (e : Ent) (H : AH) (w : World), HRel G base W0 m H w → H.get B = some blk → m.f B = some e → blk.ro = false →
    LRel m vs vs' → (∀ x ∈ vs', x.oneCell' = true) → o + i + vs.length ≤ blk.cells.length →
    ∃ w', (storeCells ⟨e.b, e.base + o, none⟩ vs' i).run P w = .ok () w' ∧ HRel G base W0 m (H.set B { blk with cells := splice blk.cells (o + i) vs }) w' ∧ (∀ k, k ≠ e.b → w'.heap[k]? = w.heap[k]?) ∧ w'.heap.size = w.heap.size
  | [], vs, i, o, B, blk, e, H, w, hr, hb, he, hro, hl, hone, hlen => by
    obtain rfl : vs = [] := by have := hl.1; simpa using this
    refine ⟨w, by simp [storeCells], ?_, fun _ _ => rfl, rfl⟩
    refine hr.congr rfl fun C => ?_
    rw [AH.get_set, splice_nil]
    by_cases hC : C = B
    · simp [hC, hb]
    · simp [hC]
  | v' :: vs', vs, i, o, B, blk, e, H, w, hr, hb, he, hro, hl, hone, hlen => by
    obtain ⟨v, vs, rfl⟩ : ∃ v us, vs = v :: us := by
      cases vs with
      | nil => have := hl.1; simp at this
      | cons v us => exact ⟨v, us, rfl⟩
    have hv : VRel m v v' := by
      obtain ⟨y, h1, h2⟩ := hl.2 0 v rfl
      simp at h1; subst h1; exact h2
    have hl' : LRel m vs vs' := ⟨by have := hl.1; simpa using this, fun j x hj => by
      obtain ⟨y, h1, h2⟩ := hl.2 (j + 1) x (by simpa using hj)
      exact ⟨y, by simpa using h1, h2⟩⟩
    simp only [List.length_cons] at hlen
    obtain ⟨hr1, ⟨u, hu⟩, hz⟩ := hr.store (o := o + i) hb (by omega) hro he hv
    obtain ⟨w', hw', hr', hk1, hk2⟩ := run_storeCells_rel vs' vs (i + 1) o B { blk with cells := blk.cells.set (o + i) v } e _ _ hr1 (by rw [AH.get_set]; simp) he hro hl'
      (fun x hx => hone x (by simp [hx])) (by simp; omega)
    refine ⟨w', ?_, ?_, fun k hk => by rw [hk1 k hk, setCell_heap_ne _ _ _ _ (by simpa using hk)], by simpa using hk2⟩
    · simp only [storeCells, Sem.run_bind]
      rw [run_store P w _ _ _ (hone v' (by simp)), addr_add]
      have e1 : e.base + o + i = e.base + (o + i) := by omega
      rw [e1, hu]
      simp only [hz, Bool.false_eq_true, if_false, Result.andThen_ok]
      exact hw'
    · refine hr'.congr rfl fun C => ?_
      simp only [AH.get_set]
      by_cases hC : C = B
      · simp only [hC, if_true]
        congr 2
        rw [show o + (i + 1) = o + i + 1 by omega, splice_cons _ _ _ _ (by omega)]
      · simp [hC]

theorem run_loadCells_rel (hr : HRel G base W0 m H w) {B : Nat} {blk : Blk} {e : Ent} (hb : H.get B = some blk) (he : m.f B = some e) (o n : Nat) (hlen : o + n ≤ blk.cells.length) :
    ∃ cs : List Value, (loadCells ⟨e.b, e.base + o, none⟩ n).run P w = .ok cs.toArray w ∧ LRel m ((blk.cells.drop o).take n) cs := by
  have hcell : ∀ j, j < n → ∃ v', w.cell? ⟨e.b, e.base + o + j, none⟩ = some v' ∧ VRel m (blk.cells.getD (o + j) undef) v' := by
    intro j hj
    have hlt : o + j < blk.cells.length := by omega
    obtain ⟨v', h1, h2⟩ := hr.cell hb (List.getElem?_eq_getElem hlt) he
    refine ⟨v', by rw [Nat.add_assoc]; exact h1, ?_⟩
    simpa [List.getD_eq_getElem?_getD, List.getElem?_eq_getElem hlt] using h2
  let g : Nat → Value := fun j => (w.cell? ⟨e.b, e.base + o + j, none⟩).getD undef
  refine ⟨(List.range n).map g, ?_, ?_⟩
  · exact run_loadCells w _ n g fun j hj => by
      obtain ⟨v', h1, _⟩ := hcell j hj
      rw [addr_add, h1]; simp [g, h1]
  · refine ⟨by simp; omega, fun i x hi => ?_⟩
    rw [List.getElem?_take] at hi
    split at hi
    · rename_i hin
      obtain ⟨v', h1, h2⟩ := hcell i hin
      rw [List.getElem?_drop] at hi
      refine ⟨v', by simp [hin, g, h1], ?_⟩
      simpa [List.getD_eq_getElem?_getD, hi] using h2
    · simp at hi

theorem partV_rel {cs cs' : List Value} (h : LRel m cs cs') {off : Nat} {n : Option Nat} {v : Value} (hp : partV cs off n = some v) :
    match n with
    | none => ∃ v', cs'[off]? = some v' ∧ VRel m v v'
    | some k => off + k ≤ cs.length ∧ v = .agg ((cs.drop off).take k).toArray ∧ VRel m v (.agg ((cs'.drop off).take k).toArray) := by
  cases n with
  | none => exact h.2 _ _ hp
  | some k =>
    simp only [partV] at hp
    cases hb : Nat.ble (off + k) cs.length
    · simp [hb] at hp
    · simp only [hb, cond_true, Option.some.injEq] at hp
      subst hp
      exact ⟨by simpa using hb, rfl, ((h.drop off).take k).to_agg⟩

theorem run_isAgg {t : TypeId} {n : Option Nat} (h : aggSize P t = some n) (w : World) :
    (isAgg t).run P w = .ok n.isSome w ∧ ∀ k, n = some k → (sizeOf t).run P w = .ok k w := by
  unfold aggSize at h
  have hsz : ∀ k, sizeAt P t = some k → (sizeOf t).run P w = .ok k w := by
    intro k hk
    unfold sizeAt at hk
    cases hi : P.info? t with
    | none => simp [hi] at hk
    | some i => simp [hi] at hk; subst hk; simp [sizeOf, typeInfo, hi]
  split at h
  · rename_i fs hu
    cases hs : sizeAt P t with
    | none => simp [hs] at h
    | some k =>
      simp [hs] at h; subst h
      exact ⟨by simp [isAgg, underlying, hu], fun j hj => by simp at hj; subst hj; exact hsz _ hs⟩
  · rename_i n e hu
    cases hs : sizeAt P t with
    | none => simp [hs] at h
    | some k =>
      simp [hs] at h; subst h
      exact ⟨by simp [isAgg, underlying, hu], fun j hj => by simp at hj; subst hj; exact hsz _ hs⟩
  · rename_i d h1 h2 hu
    simp at h; subst h
    refine ⟨?_, fun k hk => by simp at hk⟩
    simp only [isAgg, underlying, hu, Sem.run_bind, run_program, Result.andThen_ok]
    cases hd : d <;> simp_all
  · simp at h

theorem run_sizeOf' {t : TypeId} {k : Nat} (h : sizeAt P t = some k) (w : World) : (sizeOf t).run P w = .ok k w := by
  unfold sizeAt at h
  cases hi : P.info? t with
  | none => simp [hi] at h
  | some i => simp [hi] at h; subst h; simp [sizeOf, typeInfo, hi]

theorem run_zero' {t : TypeId} {zs : List Value} (h : zeroAt P t = some zs) (w : World) : (∃ z, (zeroValue t).run P w = .ok z w ∧ z.cells.toList = zs) ∧ ∀ z ∈ zs, flatD 4 z = true := by
  unfold zeroAt at h
  cases hi : P.info? t with
  | none => simp [hi] at h
  | some i =>
    simp only [hi] at h
    cases hz : i.zero with
    | none => simp [hz] at h
    | some z =>
      simp only [hz] at h
      cases hf : (vcells z).all (flatD 4)
      · simp [hf] at h
      · simp [hf] at h; subst h
        exact ⟨⟨z, by simp [zeroValue, typeInfo, hi, hz], by cases z <;> rfl⟩, fun x hx => List.all_eq_true.1 hf x hx⟩

end Go.Det

set_option linter.unusedSimpArgs false
set_option linter.unusedVariables false
namespace Go.Det

variable {P : Program} {G base : Nat} {W0 : World} {m : Mp} {H : AH} {w : World} {fr : Fr} {a : Act} {o : Oper}

theorem ok_mov {x : Operand} (hop : o.op = .move x ∨ o.op = .assign x) (hr : HRel G base W0 m H w) (hf : FrRel m fr a.tmps) (ho : okOpnd G x = true) {v : Value} (hx : ev fr x = some v) :
    OpOk P G base W0 o a w m H v H :=
  .same hr (v' := a.eval x) (by rcases hop with h | h <;> simp [execOp, h]) (ev_sound hr hf ho hx)

theorem ok_pick {c x y : Operand} (hop : o.op = .pick c x y) (hr : HRel G base W0 m H w) (hf : FrRel m fr a.tmps) (hoc : okOpnd G c = true) (hox : okOpnd G x = true) (hoy : okOpnd G y = true)
    {v : Value} {b : Bool} (hc : ev fr c = some (.bool b)) (hx : ev fr (if b then x else y) = some v) : OpOk P G base W0 o a w m H v H := by
  have h2 : a.eval c = .bool b := (flatD_eq 4 _ _ rfl (ev_sound hr hf hoc hc)).symm
  cases b
  · exact .same hr (v' := a.eval y) (by simp [execOp, hop, h2, asBool]) (ev_sound hr hf hoy hx)
  · exact .same hr (v' := a.eval x) (by simp [execOp, hop, h2, asBool]) (ev_sound hr hf hox hx)

theorem push_ptr (m : Mp) (w : World) (n s k z : Nat) (opn ro : Bool) :
    VRel (m.set n ⟨w.heap.size, 0, s, k, z, opn, ro⟩) (.pointer (some ⟨n, 0, none⟩)) (.pointer (some ⟨w.heap.size, 0, none⟩)) := by
  have := VRel.ptr (m := m.set n ⟨w.heap.size, 0, s, k, z, opn, ro⟩) n 0 ⟨w.heap.size, 0, s, k, z, opn, ro⟩ (by simp [Mp.set])
  simpa using this

theorem push_sl (m : Mp) (w : World) (n s k z l c c' : Nat) (opn ro : Bool) (hl : l ≤ c) (hc : c ≤ c') (hex : opn = false ∨ c * z < k → c' = c) (hnx : opn = true → c' * z = s) (hs : c' * z ≤ s) :
    VRel (m.set n ⟨w.heap.size, 0, s, k, z, opn, ro⟩) (.slice (some ⟨n, 0, none⟩) l c) (.slice (some ⟨w.heap.size, 0, none⟩) l c') := by
  have hno : ∀ c, ¬ Ent.exact ⟨w.heap.size, 0, s, k, z, opn, ro⟩ 0 c → opn = true := by
    intro c h
    cases opn
    · exact absurd (Or.inl rfl) h
    · rfl
  rcases Nat.eq_zero_or_pos c with h0 | h0
  · subst h0
    obtain rfl : l = 0 := by omega
    exact .sl0 n 0 c' _ ⟨w.heap.size, 0, s, k, z, opn, ro⟩ (by simp [Mp.set]) (fun h => hex (by simpa [Ent.exact] using h)) (fun h => by simpa using hnx (hno 0 h)) (fun _ => rfl)
  · have := VRel.sl (m := m.set n ⟨w.heap.size, 0, s, k, z, opn, ro⟩) n 0 l c c' ⟨w.heap.size, 0, s, k, z, opn, ro⟩ (by simp [Mp.set]) h0 hl hc
      (fun h => hex (by simpa [Ent.exact] using h)) (fun h => by simpa using hnx (hno c h)) (by simpa using hs)
    simpa using this

theorem nofz (n : Nat) : Thaw (0, 0) n := ⟨Nat.le_refl _, fun o _ => by simp⟩

theorem flat_lrel (m : Mp) (zs : List Value) (h : ∀ z ∈ zs, flatD 4 z = true) : LRel m zs zs :=
  ⟨rfl, fun i x hi => ⟨x, hi, flatD_refl m 4 x (h x (List.mem_of_getElem? hi))⟩⟩

theorem HRel.pushL (h : HRel G base W0 m H w) (cs : List Value) (c : Array Value) (t : TypeId) (sz : Nat) (opn ro : Bool) (hsz : 0 < sz) (rest : List Value)
    (hc : ∃ cs', LRel m cs cs' ∧ c.toList = cs' ++ rest) :
    HRel G base W0 (m.set H.n ⟨w.heap.size, 0, c.size, cs.length, sz, opn, ro⟩) (H.push ⟨cs, sz, opn, ro⟩) { w with heap := w.heap.push (.cells c t (0, 0)) } ∧
    Fut m H w (m.set H.n ⟨w.heap.size, 0, c.size, cs.length, sz, opn, ro⟩) (H.push ⟨cs, sz, opn, ro⟩) { w with heap := w.heap.push (.cells c t (0, 0)) } := by
  obtain ⟨cs', h1, h2⟩ := hc
  have hlen : c.size = cs'.length + rest.length := by rw [← Array.length_toList, h2, List.length_append]
  refine h.push cs c t (0, 0) sz opn ro hsz (by rw [h1.1]; omega) (fun i v hi => ?_) (nofz _)
  obtain ⟨v', a, b⟩ := h1.2 i v hi
  refine ⟨v', ?_, b⟩
  rw [← Array.getElem?_toList, h2, List.getElem?_append_left (List.getElem?_eq_some_iff.1 a).1]
  exact a

theorem ok_new {t : TypeId} {zs : List Value} (sz : Nat) (hsz : 0 < sz) (hop : o.op = .alloc t) (hz : zeroAt P t = some zs) (hr : HRel G base W0 m H w) :
    OpOk P G base W0 o a w m H (.pointer (some ⟨H.n, 0, none⟩)) (H.push ⟨zs, sz, false, false⟩) := by
  obtain ⟨⟨z, h1, h2⟩, h3⟩ := run_zero' hz w
  obtain ⟨hR, hF⟩ := hr.pushL zs z.cells t sz false false hsz [] ⟨zs, flat_lrel m zs h3, by simp [h2]⟩
  refine ⟨_, .pointer (some ⟨w.heap.size, 0, none⟩), _, .inl ?_, hR, hF, push_ptr m w _ _ _ _ _ _⟩
  simp [execOp, hop, Instr.alloc, h1, newVar, newRow]

theorem ok_box {t : TypeId} {x : Operand} (sz : Nat) (hsz : 0 < sz) (hop : o.op = .box t x) (hr : HRel G base W0 m H w) (hf : FrRel m fr a.tmps) (ho : okOpnd G x = true) {v : Value} (hx : ev fr x = some v) :
    OpOk P G base W0 o a w m H (.pointer (some ⟨H.n, 0, none⟩)) (H.push ⟨vcells v, sz, false, false⟩) := by
  have hv := ev_sound hr hf ho hx
  obtain ⟨hR, hF⟩ := hr.pushL (vcells v) (a.eval x).cells t sz false false hsz [] ⟨_, (vcells_rel hv).1, by simp⟩
  refine ⟨_, .pointer (some ⟨w.heap.size, 0, none⟩), _, .inl ?_, hR, hF, push_ptr m w _ _ _ _ _ _⟩
  simp [execOp, hop, Instr.box, newVar, newRow]

theorem ok_ld {t : TypeId} {n : Option Nat} {x : Operand} (hop : o.op = .load t x) (hn : aggSize P t = some n) (hr : HRel G base W0 m H w) (hf : FrRel m fr a.tmps) (ho : okOpnd G x = true)
    {B off : Nat} {blk : Blk} {v : Value} (hx : ev fr x = some (.pointer (some ⟨B, off, none⟩))) (hb : H.get B = some blk) (hp : partV blk.cells off n = some v) :
    OpOk P G base W0 o a w m H v H := by
  obtain ⟨e, he, hk, hev⟩ := VRel.live_ptr hr hb (ev_sound hr hf ho hx)
  obtain ⟨ha, hs⟩ := run_isAgg hn w
  cases n with
  | none =>
    obtain ⟨v', h1, h2⟩ := hr.cell hb hp he
    refine .same hr (v' := v') ?_ h2
    simp [execOp, hop, Instr.loadAt, Instr.sureAddr, hev, loadVar, ha, h1]
  | some k =>
    simp only [partV] at hp
    cases hle : Nat.ble (off + k) blk.cells.length
    · simp [hle] at hp
    · simp only [hle, cond_true, Option.some.injEq] at hp
      obtain ⟨cs, h1, h2⟩ := run_loadCells_rel (P := P) hr hb he off k (by simpa using hle)
      subst hp
      refine .same hr (v' := .agg cs.toArray) ?_ h2.to_agg
      simp [execOp, hop, Instr.loadAt, Instr.sureAddr, hev, loadVar, ha, hs k rfl, h1]

theorem ok_st {t : TypeId} {n : Nat} {x y : Operand} (hop : o.op = .store t x y) (hn : sizeAt P t = some n) (hr : HRel G base W0 m H w) (hf : FrRel m fr a.tmps)
    (ho : okOpnd G x = true) (hoy : okOpnd G y = true) {B off : Nat} {blk : Blk} {v : Value} (hx : ev fr x = some (.pointer (some ⟨B, off, none⟩))) (hy : ev fr y = some v)
    (hb : H.get B = some blk) (hl : (vcells v).length = n) (hone : (vcells v).all one = true) (hro : blk.ro = false) (hlen : off + n ≤ blk.cells.length) :
    OpOk P G base W0 o a w m H undef (H.set B { blk with cells := splice blk.cells off (vcells v) }) := by
  obtain ⟨e, he, hk, hev⟩ := VRel.live_ptr hr hb (ev_sound hr hf ho hx)
  obtain ⟨hv1, hv2⟩ := vcells_rel (ev_sound hr hf hoy hy)
  obtain ⟨w', h1, h2, h3, h4⟩ := run_storeCells_rel (P := P) (a.eval y).cells.toList (vcells v) 0 off B blk e H w hr hb he hro hv1 (hv2 hone) (by simpa [hl] using hlen)
  refine ⟨m, undef, w', .inr ⟨?_, rfl⟩, by simpa using h2, Fut.of_store hb he (by rw [hk.ro]; exact hro) h3 h4, vrel_undef m⟩
  have hsize : (a.eval y).cells.size = n := by rw [← Array.length_toList, ← hv1.1, hl]
  simp [execOp, hop, Instr.storeAt, Instr.sureAddr, hev, storeVar, run_sizeOf' hn, hsize, h1]

theorem ok_nilck {x : Operand} (hop : o.op = .nilCheck x) (hr : HRel G base W0 m H w) (hf : FrRel m fr a.tmps) (ho : okOpnd G x = true) {v : Value} (hx : ev fr x = some v)
    (hv : (∃ p, v = .pointer (some p)) ∨ ∃ f xs ys, v = .func (.func f) xs ys) : OpOk P G base W0 o a w m H v H := by
  have h := ev_sound hr hf ho hx
  refine .same hr (v' := a.eval x) ?_ h
  rcases hv with ⟨p, rfl⟩ | ⟨f, xs, ys, rfl⟩
  · generalize hq : a.eval x = y at h
    cases h <;> simp [execOp, hop, hq]
  · generalize hq : a.eval x = y at h
    cases h; simp [execOp, hop, hq]

theorem ibin_run {op : BinOp} {k : IntKind} {x y : Int} {v : Value} (t : TypeId) (h : ibin op k x y = some v) (w : World) : (binOp op t (.int k x) (.int k y)).run P w = .ok v w ∧ flatD 4 v = true := by
  cases op <;> simp only [ibin] at h
  case quo => split at h
              · simp at h
              · rename_i hy; cases h; exact ⟨by simp [binOp, Op.intDiv, hy], rfl⟩
  case rem => split at h
              · simp at h
              · rename_i hy; cases h; exact ⟨by simp [binOp, Op.intDiv, hy], rfl⟩
  all_goals first
    | (cases h; exact ⟨by simp [binOp, Op.intArith, Op.intBits, Op.intCmp], rfl⟩)
    | simp at h

theorem sbin_run {op : BinOp} {x y : ByteArray} {v : Value} (t : TypeId) (h : sbin op x y = some v) (w : World) : (binOp op t (.string x) (.string y)).run P w = .ok v w ∧ flatD 4 v = true := by
  cases op <;> simp only [sbin] at h
  case add => split at h
              · simp at h
              · rename_i hy; cases h; exact ⟨by simp only [binOp, Op.stringOp, hy, if_false]; rfl, rfl⟩
  all_goals first
    | (cases h; exact ⟨by simp [binOp, Op.stringOp], rfl⟩)
    | simp at h

theorem xbin_inv {op : BinOp} {a b v : Value} (h : xbin op a b = some v) :
    (∃ k x y, a = .int k x ∧ b = .int k y ∧ ibin op k x y = some v) ∨ (∃ x y, a = .string x ∧ b = .string y ∧ sbin op x y = some v) ∨
    (∃ k x k' y, a = .int k x ∧ b = .int k' y ∧ ¬ y < 0 ∧ ((op = .shl ∧ v = .int k (k.wrap (x * 2 ^ (min y.toNat k.bits)))) ∨ (op = .shr ∧ v = .int k (x.fdiv (2 ^ (min y.toNat k.bits)))))) := by
  cases a <;> cases b <;> simp only [xbin] at h <;> try (simp at h; done)
  case int.int k x k' y =>
    cases op <;> simp only [] at h
    case shl => split at h
                · simp at h
                · rename_i hy; cases h; exact .inr (.inr ⟨k, x, k', y, rfl, rfl, hy, .inl ⟨rfl, rfl⟩⟩)
    case shr => split at h
                · simp at h
                · rename_i hy; cases h; exact .inr (.inr ⟨k, x, k', y, rfl, rfl, hy, .inr ⟨rfl, rfl⟩⟩)
    all_goals
      split at h
      · rename_i hk; subst hk; exact .inl ⟨_, _, _, rfl, rfl, h⟩
      · simp at h
  case string.string x y => exact .inr (.inl ⟨x, y, rfl, rfl, h⟩)

theorem xbin_run {op : BinOp} {a b v : Value} (t : TypeId) (h : xbin op a b = some v) (w : World) : (binOp op t a b).run P w = .ok v w := by
  rcases xbin_inv h with ⟨k, x, y, rfl, rfl, h'⟩ | ⟨x, y, rfl, rfl, h'⟩ | ⟨k, x, k', y, rfl, rfl, hy, ⟨rfl, rfl⟩ | ⟨rfl, rfl⟩⟩
  · exact (ibin_run t h' w).1
  · exact (sbin_run t h' w).1
  · simp [binOp, Op.shift, hy]
  · simp [binOp, Op.shift, hy]

theorem xbin_flat {op : BinOp} {a b v : Value} (h : xbin op a b = some v) : flatD 4 a = true ∧ flatD 4 b = true ∧ flatD 4 v = true := by
  rcases xbin_inv h with ⟨k, x, y, rfl, rfl, h'⟩ | ⟨x, y, rfl, rfl, h'⟩ | ⟨k, x, k', y, rfl, rfl, hy, ⟨rfl, rfl⟩ | ⟨rfl, rfl⟩⟩
  · exact ⟨rfl, rfl, (ibin_run (P := default) 0 h' default).2⟩
  · exact ⟨rfl, rfl, (sbin_run (P := default) 0 h' default).2⟩
  · exact ⟨rfl, rfl, rfl⟩
  · exact ⟨rfl, rfl, rfl⟩

theorem ok_bin {op : BinOp} {t u : TypeId} {x y : Operand} (hop : o.op = .binOp op t x y u) (hr : HRel G base W0 m H w) (hf : FrRel m fr a.tmps) (hox : okOpnd G x = true) (hoy : okOpnd G y = true)
    {p q v : Value} (hx : ev fr x = some p) (hy : ev fr y = some q) (hb : xbin op p q = some v) : OpOk P G base W0 o a w m H v H := by
  obtain ⟨f1, f2, f3⟩ := xbin_flat hb
  have e1 := flatD_eq 4 _ _ f1 (ev_sound hr hf hox hx)
  have e2 := flatD_eq 4 _ _ f2 (ev_sound hr hf hoy hy)
  refine .same hr (v' := v) ?_ (flatD_refl m 4 v f3)
  have hg : (eqGuard op t x y p q).run P w = .ok () w := by
    unfold eqGuard
    rcases xbin_inv hb with ⟨k, x, y, rfl, rfl, h⟩ | ⟨x, y, rfl, rfl, h⟩ | ⟨k, x, k', y, rfl, rfl, hy, ⟨rfl, rfl⟩ | ⟨rfl, rfl⟩⟩ <;> first | rfl | (cases op <;> rfl)
  simp [execOp, hop, ← e1, ← e2, hg, xbin_run t hb]

theorem ok_conv {s d : TypeId} {x : Operand} {j k : IntKind} (hop : o.op = .convert s d x) (hs : P.underlying s = some (.int j)) (hd : P.underlying d = some (.int k))
    (hr : HRel G base W0 m H w) (hf : FrRel m fr a.tmps) (ho : okOpnd G x = true) {i : IntKind} {n : Int} (hx : ev fr x = some (.int i n)) :
    OpOk P G base W0 o a w m H (.int k (k.wrap n)) H := by
  have e1 := flatD_eq 4 _ _ rfl (ev_sound hr hf ho hx)
  refine .same hr (v' := .int k (k.wrap n)) ?_ (.int _ _)
  simp [execOp, hop, ← e1, convert, underlying, hs, hd, Conv.intToInt]

theorem ok_fldA {t : TypeId} {x : Operand} {i n : Nat} {fs : Array Field} {f : Field} (hop : o.op = .fieldAddr t x i) (hu : P.underlying t = some (.struct fs)) (hfi : fs[i]? = some f)
    (hn : sizeAt P f.type = some (n + 1)) (hr : HRel G base W0 m H w) (hf : FrRel m fr a.tmps) (ho : okOpnd G x = true) {B off : Nat} (hx : ev fr x = some (.pointer (some ⟨B, off, none⟩))) :
    OpOk P G base W0 o a w m H (.pointer (some ⟨B, off + f.offset, none⟩)) H := by
  have h := ev_sound hr hf ho hx
  generalize hq : a.eval x = y at h
  cases h with
  | ptr _ _ e he =>
    refine .same hr (v' := .pointer (some ⟨e.b, e.base + off + f.offset, none⟩)) ?_ (by rw [Nat.add_assoc]; exact .ptr _ _ e he)
    simp [execOp, hop, Instr.fieldAt, underlying, hu, hfi, hq, Instr.sureAddr, fieldPlace, run_sizeOf' hn, addr_add]

theorem natlt {k l : Nat} (h : Nat.blt k l = true) : k < l := by
  have : k + 1 ≤ l := by simpa [Nat.blt] using h
  omega

theorem ok_idxA {t e : TypeId} {sz : Nat} {x y : Operand} (hop : o.op = .indexAddr t x y) (hu : P.underlying t = some (.slice e)) (hs : sizeAt P e = some sz)
    (hr : HRel G base W0 m H w) (hf : FrRel m fr a.tmps) (hox : okOpnd G x = true) (hoy : okOpnd G y = true) {B off l c k : Nat} {ik : IntKind}
    (hx : ev fr x = some (.slice (some ⟨B, off, none⟩) l c)) (hy : ev fr y = some (.int ik (.ofNat k))) (hk : k < l) (hlc : l ≤ c) :
    OpOk P G base W0 o a w m H (.pointer (some ⟨B, off + k * sz, none⟩)) H := by
  have h := ev_sound hr hf hox hx
  have e2 := flatD_eq 4 _ _ rfl (ev_sound hr hf hoy hy)
  have h0 : (0 : Int) ≤ Int.ofNat k ∧ Int.ofNat k < (l : Int) := ⟨Int.natCast_nonneg k, by exact Int.ofNat_lt.2 hk⟩
  have h1 : (Int.ofNat k).toNat = k := rfl
  generalize hq : a.eval x = z at h
  cases h with
  | sl _ _ _ _ c' en he hc0 hl hc hex hnx hsz =>
    refine .same hr (v' := .pointer (some ⟨en.b, en.base + off + k * sz, none⟩)) ?_ (by rw [Nat.add_assoc]; exact .ptr _ _ en he)
    simp [execOp, hop, Instr.indexAt, underlying, hu, hq, ← e2, asIntOf, run_sizeOf' hs, addr_add, hk]
  | sl0 => omega

theorem ok_idxAA {t e : TypeId} {n sz : Nat} {x y : Operand} (hop : o.op = .indexAddr t x y) (hu : P.underlying t = some (.array n e)) (hs : sizeAt P e = some sz)
    (hr : HRel G base W0 m H w) (hf : FrRel m fr a.tmps) (hox : okOpnd G x = true) (hoy : okOpnd G y = true) {B off k : Nat} {ik : IntKind}
    (hx : ev fr x = some (.pointer (some ⟨B, off, none⟩))) (hy : ev fr y = some (.int ik (.ofNat k))) (hk : k < n) :
    OpOk P G base W0 o a w m H (.pointer (some ⟨B, off + k * sz, none⟩)) H := by
  have h := ev_sound hr hf hox hx
  have e2 := flatD_eq 4 _ _ rfl (ev_sound hr hf hoy hy)
  generalize hq : a.eval x = z at h
  cases h with
  | ptr _ _ en he =>
    refine .same hr (v' := .pointer (some ⟨en.b, en.base + off + k * sz, none⟩)) ?_ (by rw [Nat.add_assoc]; exact .ptr _ _ en he)
    simp [execOp, hop, Instr.indexAt, underlying, hu, hq, ← e2, asIntOf, run_sizeOf' hs, addr_add, hk, Instr.sureAddr]

end Go.Det

set_option linter.unusedSimpArgs false
set_option linter.unusedVariables false
namespace Go.Det

variable {P : Program} {G base : Nat} {W0 : World} {m : Mp} {H : AH} {w : World} {fr : Fr} {a : Act} {o : Oper}

theorem ok_flat {op : Op} {ty : TypeId} (hop : o.op = op) (hty : o.type = ty) (hs : ∀ cs b, op ≠ .select cs b) (hr : HRel G base W0 m H w) (hf : FrRel m fr a.tmps)
    (ho : op.operands.all (okOpnd G) = true) {v : Value} (hx : xflat P fr op ty = some v) : OpOk P G base W0 o a w m H v H := by
  unfold xflat at hx
  cases hall : op.operands.all (evFlat fr)
  · simp [hall] at hx
  · simp only [hall, cond_true] at hx
    have hρ : ∀ x ∈ op.operands, (ev fr x).getD undef = a.eval x := by
      intro x hxm
      have h1 := Array.all_eq_true'.1 hall x hxm
      unfold evFlat at h1
      cases he : ev fr x with
      | none => simp [he] at h1
      | some u =>
        simp [he] at h1
        have := flatD_eq 4 _ _ h1 (ev_sound hr hf (Array.all_eq_true'.1 ho x hxm) he)
        simpa using this
    have hex : execOp a.eval o = execOp (fun x => (ev fr x).getD undef) (flatOper op ty) := by
      have h2 : execOp a.eval o = execOp a.eval (flatOper op ty) := by
        obtain ⟨d, op', ty', p, af, g⟩ := o
        change op' = op at hop
        change ty' = ty at hty
        subst hop hty
        rfl
      rw [h2]
      refine (execOp_congr (flatOper op ty) (by simpa [flatOper] using hs) ?_).symm
      intro x hx'
      exact hρ x hx'
    cases hp : pureRun P (execOp (fun x => (ev fr x).getD undef) (flatOper op ty)) with
    | none => simp [hp] at hx
    | some nx =>
      simp only [hp] at hx
      cases nx <;> simp at hx
      rename_i u
      cases hfl : flatD 4 u
      · simp [hfl] at hx
      · simp [hfl] at hx
        subst hx
        refine .same hr (v' := u) ?_ (flatD_refl m 4 u hfl)
        rw [hex]
        exact pureRun_run P w _ _ hp

theorem ok_len {t : TypeId} {x : Operand} {c : Call} (hop : o.op = .call c) (hc : c.callee = .builtin .len) (ht : c.argTypes[0]? = some t) (hargs : c.args.toList = [x])
    (hu : (∃ e, P.underlying t = some (.slice e)) ∨ P.underlying t = some .string) (hr : HRel G base W0 m H w) (hf : FrRel m fr a.tmps) (ho : okOpnd G x = true)
    {v : Value} {n : Nat} (hx : ev fr x = some v) (hv : (∃ ad cc, v = .slice ad n cc) ∧ (∃ e, P.underlying t = some (.slice e)) ∨ (∃ s : ByteArray, v = .string s ∧ s.size = n) ∧ P.underlying t = some .string) :
    OpOk P G base W0 o a w m H (.int .i64 (Int.ofNat n)) H := by
  have h := ev_sound hr hf ho hx
  have hargs' : c.args = #[x] := by rw [← Array.toArray_toList (xs := c.args), hargs]
  refine .same hr (v' := .int .i64 (Int.ofNat n)) ?_ (.int _ _)
  rcases hv with ⟨⟨ad, cc, rfl⟩, e, he⟩ | ⟨⟨s, rfl, rfl⟩, he⟩
  · have : ∃ ad' cc', a.eval x = .slice ad' n cc' := by
      generalize a.eval x = y at h
      cases h <;> exact ⟨_, _, rfl⟩
    obtain ⟨ad', cc', hq⟩ := this
    simp [execOp, hop, resolve, hc, hargs', invoke, builtin, Builtin.len_, ht, underlying, he, hq, goInt]
  · have hq := flatD_eq 4 _ _ rfl h
    simp [execOp, hop, resolve, hc, hargs', invoke, builtin, Builtin.len_, ht, underlying, he, ← hq, goInt]

theorem ok_cap {t : TypeId} {x : Operand} {c : Call} (hop : o.op = .call c) (hc : c.callee = .builtin .cap) (ht : c.argTypes[0]? = some t) (hargs : c.args.toList = [x])
    {e : TypeId} (hu : P.underlying t = some (.slice e)) (hr : HRel G base W0 m H w) (hf : FrRel m fr a.tmps) (ho : okOpnd G x = true)
    {v : Value} {n : Nat} (hx : ev fr x = some v) (hv : (v = .slice none 0 0 ∧ n = 0) ∨ ∃ B off l blk, v = .slice (some ⟨B, off, none⟩) l n ∧ H.get B = some blk ∧ (blk.opn = false ∨ off + n * blk.sz < blk.cells.length)) :
    OpOk P G base W0 o a w m H (.int .i64 (Int.ofNat n)) H := by
  have h := ev_sound hr hf ho hx
  have hargs' : c.args = #[x] := by rw [← Array.toArray_toList (xs := c.args), hargs]
  refine .same hr (v' := .int .i64 (Int.ofNat n)) ?_ (.int _ _)
  have : ∃ ad' l', a.eval x = .slice ad' l' n := by
    rcases hv with ⟨rfl, rfl⟩ | ⟨B, off, l, blk, rfl, hb, hex⟩
    · have hq := flatD_eq 4 _ _ rfl h
      exact ⟨_, _, hq.symm⟩
    · obtain ⟨en, hen, hk⟩ := hr.live' hb h.sl_f
      generalize a.eval x = y at h
      cases h with
      | sl _ _ _ _ c' e' he h0 h1 h2 h3 h4 h5 =>
        obtain rfl : e' = en := by rw [hen] at he; exact (Option.some.inj he).symm
        obtain rfl := h3 (by rw [Ent.exact, hk.opn, hk.sz, hk.kn]; exact hex)
        exact ⟨_, _, rfl⟩
      | sl0 _ _ c' ad e' he h1 h2 h3 =>
        obtain rfl : e' = en := by rw [hen] at he; exact (Option.some.inj he).symm
        obtain rfl := h1 (by rw [Ent.exact, hk.opn, hk.sz, hk.kn]; exact hex)
        exact ⟨_, _, rfl⟩
  obtain ⟨ad', l', hq⟩ := this
  simp [execOp, hop, resolve, hc, hargs', invoke, builtin, Builtin.cap_, ht, underlying, hu, hq, goInt]

theorem ok_ext {x : Operand} {i : Nat} (hop : o.op = .extract x i) (hr : HRel G base W0 m H w) (hf : FrRel m fr a.tmps) (ho : okOpnd G x = true) {vs : Array Value} {v : Value}
    (hx : ev fr x = some (.tuple vs)) (hv : vs.toList[i]? = some v) : OpOk P G base W0 o a w m H v H := by
  have h := ev_sound hr hf ho hx
  generalize hq : a.eval x = y at h
  cases h with
  | tuple _ ys hs hxs =>
    obtain ⟨v', h1, h2⟩ := (LRel.of_agg hs hxs).2 i v hv
    refine .same hr (v' := v') ?_ h2
    have h1' : ys[i]? = some v' := by simpa using h1
    simp [execOp, hop, Instr.extract, hq, h1']

theorem ok_mkI {t : TypeId} {x : Operand} {d : TypeDesc} (hop : o.op = .makeInterface t x) (hd : P.underlying t = some d) (hd2 : ∀ ms, d ≠ .interface ms) (hr : HRel G base W0 m H w) (hf : FrRel m fr a.tmps)
    (ho : okOpnd G x = true) {v : Value} (hx : ev fr x = some v) : OpOk P G base W0 o a w m H (.iface t v) H := by
  refine .same hr (v' := .iface t (a.eval x)) ?_ (.iface _ _ _ (ev_sound hr hf ho hx))
  cases d <;> simp_all [execOp, Instr.makeInterface, underlying]

theorem ok_mkf {fn : Fn} {f1 c1 : Array Operand} (hop : o.op = .makeFunc fn f1 c1) (hr : HRel G base W0 m H w) (hf : FrRel m fr a.tmps) (ho1 : ∀ x ∈ f1.toList, okOpnd G x = true)
    (ho2 : ∀ x ∈ c1.toList, okOpnd G x = true) {xs ys : List Value} (h1 : evs fr f1.toList = some xs) (h2 : evs fr c1.toList = some ys) :
    OpOk P G base W0 o a w m H (.func fn xs.toArray ys.toArray) H := by
  have k1 := LRel.evs hr hf ho1 h1
  have k2 := LRel.evs hr hf ho2 h2
  refine .same hr (v' := .func fn (f1.map a.eval) (c1.map a.eval)) (by simp [execOp, hop, Instr.makeFunc]) ?_
  have t1 := k1.to_tuple
  have t2 := k2.to_tuple
  have e1 : (f1.toList.map a.eval).toArray = f1.map a.eval := by rw [← Array.toList_map, Array.toArray_toList]
  have e2 : (c1.toList.map a.eval).toArray = c1.map a.eval := by rw [← Array.toList_map, Array.toArray_toList]
  rw [e1] at t1; rw [e2] at t2
  cases t1 with
  | tuple _ _ a1 b1 => cases t2 with
    | tuple _ _ a2 b2 => exact .func _ _ _ _ _ a1 b1 a2 b2

theorem ok_fld {t : TypeId} {x : Operand} {i : Nat} {fs : Array Field} {f : Field} {n : Option Nat} (hop : o.op = .field t x i) (hu : P.underlying t = some (.struct fs)) (hfi : fs[i]? = some f)
    (hn : aggSize P f.type = some n) (hr : HRel G base W0 m H w) (hf : FrRel m fr a.tmps) (ho : okOpnd G x = true) {cs : Array Value} {v : Value} (hx : ev fr x = some (.agg cs))
    (hp : partV cs.toList f.offset n = some v) : OpOk P G base W0 o a w m H v H := by
  have h := ev_sound hr hf ho hx
  generalize hq : a.eval x = y at h
  cases h with
  | agg _ ys hs hxs =>
    have hl := LRel.of_agg hs hxs
    have hpr := partV_rel hl hp
    obtain ⟨ha, hsz⟩ := run_isAgg hn w
    cases n with
    | none =>
      obtain ⟨v', h1, h2⟩ := hpr
      have h1' : ys[f.offset]? = some v' := by simpa using h1
      refine .same hr (v' := v') ?_ h2
      simp [execOp, hop, Instr.field, underlying, hu, hfi, hq, asAgg, part, ha, h1']
    | some k =>
      obtain ⟨_, _, h3⟩ := hpr
      refine .same hr (v' := _) ?_ h3
      have : ys.extract f.offset (f.offset + k) = (List.take k (List.drop f.offset ys.toList)).toArray := by
        apply Array.ext'
        simp [List.extract_eq_take_drop]
      simp [execOp, hop, Instr.field, underlying, hu, hfi, hq, asAgg, part, ha, hsz k rfl, this]

theorem ok_idxV {t e : TypeId} {x y : Operand} {len sz k : Nat} {ik : IntKind} {n : Option Nat} (hop : o.op = .index t x y) (hu : P.underlying t = some (.array len e)) (hsz : sizeAt P e = some sz)
    (hn : aggSize P e = some n) (hr : HRel G base W0 m H w) (hf : FrRel m fr a.tmps) (hox : okOpnd G x = true) (hoy : okOpnd G y = true) {cs : Array Value} {v : Value} (hx : ev fr x = some (.agg cs))
    (hy : ev fr y = some (.int ik (.ofNat k))) (hk : k < len) (hp : partV cs.toList (k * sz) n = some v) : OpOk P G base W0 o a w m H v H := by
  have h := ev_sound hr hf hox hx
  have e2 := flatD_eq 4 _ _ rfl (ev_sound hr hf hoy hy)
  generalize hq : a.eval x = z at h
  cases h with
  | agg _ ys hs hxs =>
    have hl := LRel.of_agg hs hxs
    have hpr := partV_rel hl hp
    obtain ⟨ha, hsz2⟩ := run_isAgg hn w
    cases n with
    | none =>
      obtain ⟨v', h1, h2⟩ := hpr
      have h1' : ys[k * sz]? = some v' := by simpa using h1
      refine .same hr (v' := v') ?_ h2
      simp [execOp, hop, Instr.index, underlying, hu, hq, ← e2, asIntOf, part, ha, h1', hk, run_sizeOf' hsz]
    | some j =>
      obtain ⟨_, _, h3⟩ := hpr
      refine .same hr (v' := _) ?_ h3
      have : ys.extract (k * sz) (k * sz + j) = (List.take j (List.drop (k * sz) ys.toList)).toArray := by
        apply Array.ext'
        simp [List.extract_eq_take_drop]
      have hj : sz = j := by
        have h1 := run_sizeOf' hsz w
        rw [hsz2 j rfl] at h1
        simp at h1; exact h1.symm
      subst hj
      simp [execOp, hop, Instr.index, underlying, hu, hq, ← e2, asIntOf, part, ha, hk, run_sizeOf' hsz, this]


theorem maxD : ∃ d, Op.maxDepth = d + 1 := ⟨9999, rfl⟩

theorem eqn_ptr {t e : TypeId} (hu : P.underlying t = some (.pointer e)) (p : Option Addr) (w : World) : (Op.equal t (.pointer p) (.pointer none)).run P w = .ok p.isNone w := by
  obtain ⟨d, hd⟩ := maxD
  unfold Op.equal; rw [hd]
  cases p <;> simp [Op.equalIn, run_underlying hu]
theorem eqn_slice {t e : TypeId} (hu : P.underlying t = some (.slice e)) (p : Option Addr) (l c : Nat) (w : World) : (Op.equal t (.slice p l c) (.slice none 0 0)).run P w = .ok p.isNone w := by
  obtain ⟨d, hd⟩ := maxD
  unfold Op.equal; rw [hd]
  cases p <;> simp [Op.equalIn, run_underlying hu]
theorem eqn_map {t k e : TypeId} (hu : P.underlying t = some (.map k e)) (p : Option Nat) (w : World) : (Op.equal t (.map p) (.map none)).run P w = .ok p.isNone w := by
  obtain ⟨d, hd⟩ := maxD
  unfold Op.equal; rw [hd]
  cases p <;> simp [Op.equalIn, run_underlying hu]
theorem eqn_func {t : TypeId} {ps rs : Array TypeId} {v : Bool} (hu : P.underlying t = some (.func ps rs v)) (fn : Fn) (xs ys : Array Value) (w : World) : (Op.equal t (.func fn xs ys) .nilFunc).run P w = .ok false w := by
  obtain ⟨d, hd⟩ := maxD
  unfold Op.equal; rw [hd]
  simp [Op.equalIn, run_underlying hu]
theorem eqn_nilFunc {t : TypeId} {ps rs : Array TypeId} {v : Bool} (hu : P.underlying t = some (.func ps rs v)) (w : World) : (Op.equal t .nilFunc .nilFunc).run P w = .ok true w := by
  obtain ⟨d, hd⟩ := maxD
  unfold Op.equal; rw [hd]
  simp [Op.equalIn, run_underlying hu]
theorem eqn_iface {t : TypeId} {ms : Array (String × TypeId)} (hu : P.underlying t = some (.interface ms)) (u : TypeId) (v : Value) (w : World) : (Op.equal t (.iface u v) .nilIface).run P w = .ok false w := by
  obtain ⟨d, hd⟩ := maxD
  unfold Op.equal; rw [hd]
  simp [Op.equalIn, run_underlying hu]
theorem eqn_nilIface {t : TypeId} {ms : Array (String × TypeId)} (hu : P.underlying t = some (.interface ms)) (w : World) : (Op.equal t .nilIface .nilIface).run P w = .ok true w := by
  obtain ⟨d, hd⟩ := maxD
  unfold Op.equal; rw [hd]
  simp [Op.equalIn, run_underlying hu]

theorem ok_isnil {op : BinOp} {t u : TypeId} {x y : Operand} (neg : Bool) {c : Value} (hop : o.op = .binOp op t x y u) (hneg : op = if neg then .neq else .eql) (hy : nilOf P t y = some c)
    (hr : HRel G base W0 m H w) (hf : FrRel m fr a.tmps) (hox : okOpnd G x = true) {v : Value} {b : Bool} (hx : ev fr x = some v) (hb : xisnil c v = some b) :
    OpOk P G base W0 o a w m H (.bool (if neg then !b else b)) H := by
  have h := ev_sound hr hf hox hx
  obtain ⟨rfl, hfit⟩ : y = .const c ∧ nilFits P t c = true := by
    cases y <;> simp [nilOf] at hy
    rename_i c'
    cases hn : nilFits P t c' <;> simp [hn] at hy
    subst hy; exact ⟨rfl, hn⟩
  refine .same hr (v' := .bool (if neg then !b else b)) ?_ (.bool _)
  have hq2 : a.eval (.const c) = c := rfl
  generalize hq : a.eval x = p at h
  have hcore : (eqGuard op t x (.const c) p c).run P w = .ok () w ∧ (binOp op t p c).run P w = .ok (.bool (if neg then !b else b)) w := by
    unfold nilFits at hfit
    unfold xisnil at hb
    split at hb
    all_goals (try (simp at hb; done))
    all_goals (simp only [Option.some.injEq] at hb; subst hb)
    all_goals
      (split at hfit <;> first | (exfalso; simp at hfit; done) | skip)
    all_goals (cases h)
    all_goals (cases neg <;> simp at hneg <;> subst hneg)
    all_goals (try contradiction)
    all_goals (refine ⟨by simp [eqGuard], ?_⟩; simp only [binOp, Sem.run_bind])
    all_goals (first | rw [eqn_ptr (by assumption)] | rw [eqn_slice (by assumption)] | rw [eqn_map (by assumption)] | rw [eqn_func (by assumption)] | rw [eqn_nilFunc (by assumption)] | rw [eqn_iface (by assumption)] | rw [eqn_nilIface (by assumption)])
    all_goals simp
  simp [execOp, hop, hq, hq2, hcore.1, hcore.2]

end Go.Det

set_option linter.unusedSimpArgs false
set_option linter.unusedVariables false
namespace Go.Det

variable {P : Program} {G base : Nat} {W0 : World} {m : Mp} {H : AH} {w : World} {fr : Fr} {a : Act} {o : Oper}

theorem wrap_nat (n : Nat) (h : n < 9223372036854775808) : IntKind.i64.wrap (Int.ofNat n) = Int.ofNat n := by
  simp [IntKind.wrap, IntKind.bits, IntKind.signed]; omega

theorem rep_length (n : Nat) (zs : List Value) : (rep n zs).length = n * zs.length := by
  induction n with
  | zero => simp [rep]
  | succ n ih => simp [rep, ih, Nat.succ_mul]; omega

theorem rep_get (zs : List Value) : ∀ (n i : Nat), i < n * zs.length → (rep n zs)[i]? = zs[i % zs.length]?
  | 0, i, h => by simp at h
  | n + 1, i, h => by
    simp only [rep]
    rw [List.getElem?_append]
    split
    · rename_i hl; rw [Nat.mod_eq_of_lt hl]
    · rename_i hl
      have hl' : zs.length ≤ i := by omega
      rw [rep_get zs n (i - zs.length) (by rw [Nat.succ_mul] at h; omega), Nat.mod_eq_sub_mod hl']

theorem range_rep (z : Array Value) (n sz : Nat) (hz : z.toList.length = sz) : ((Array.range (n * sz)).map (fun i => z[i % z.size]!)).toList = rep n z.toList := by
  apply List.ext_getElem?
  intro i
  simp only [Array.toList_map, Array.toList_range, List.getElem?_map]
  have hs : z.size = sz := by simpa using hz
  by_cases hi : i < n * sz
  · rw [List.getElem?_range hi, rep_get _ _ _ (by rw [hz]; exact hi), hz]
    have hpos : 0 < sz := by
      rcases Nat.eq_zero_or_pos sz with h0 | h0
      · subst h0; simp at hi
      · exact h0
    have hm : i % sz < z.size := by rw [hs]; exact Nat.mod_lt _ hpos
    simp only [Option.map_some, hs]
    rw [Array.getElem?_toList, Array.getElem?_eq_getElem hm]
    simp [hm]
  · rw [List.getElem?_eq_none (by simp; omega), List.getElem?_eq_none (by rw [rep_length, hz]; omega)]
    rfl

theorem rep_flat (n : Nat) (zs : List Value) (h : ∀ z ∈ zs, flatD 4 z = true) : ∀ z ∈ rep n zs, flatD 4 z = true := by
  induction n with
  | zero => intro z hz; simp [rep] at hz
  | succ n ih =>
    intro z hz
    simp only [rep, List.mem_append] at hz
    rcases hz with hz | hz
    · exact h z hz
    · exact ih z hz

theorem run_mks {t e : TypeId} {x y : Operand} {zs : List Value} {i : TypeInfo} {l c : Nat} {k1 k2 : IntKind} (hop : o.op = .makeSlice t x y) (hu : P.underlying t = some (.slice e))
    (hz : zeroAt P e = some zs) (hi : P.info? e = some i) (hlen : zs.length = i.size) (hs1 : 1 ≤ i.size) (hr : HRel G base W0 m H w) (hf : FrRel m fr a.tmps) (hox : okOpnd G x = true) (hoy : okOpnd G y = true)
    (hx : ev fr x = some (.int k1 (.ofNat l))) (hy : ev fr y = some (.int k2 (.ofNat c))) (hlc : l ≤ c) (hcb : c * i.bytes ≤ 140737488355328) (hc : c ≤ 140737488355328) :
    ∃ C : Array Value, C.toList = rep c zs ∧ (execOp a.eval o).run P w = .ok (.value (.slice (some ⟨w.heap.size, 0, none⟩) l c)) { w with heap := w.heap.push (.cells C e (0, 0)) } := by
  have e1 := flatD_eq 4 _ _ rfl (ev_sound hr hf hox hx)
  have e2 := flatD_eq 4 _ _ rfl (ev_sound hr hf hoy hy)
  obtain ⟨⟨z, h1, h2⟩, h3⟩ := run_zero' hz w
  have hzs : z.cells.toList.length = i.size := by rw [h2, hlen]
  let C : Array Value := (Array.range (c * i.size)).map (fun j => (if c * i.size = 0 then #[] else z.cells)[j % (if c * i.size = 0 then #[] else z.cells).size]!)
  have hC : C.toList = rep c zs := by
    rcases Nat.eq_zero_or_pos c with h0 | h0
    · subst h0; simp [C, rep]
    · have : ¬ c * i.size = 0 := Nat.ne_of_gt (Nat.mul_pos h0 (by omega))
      have := range_rep z.cells c i.size hzs
      rw [h2] at this
      simpa [C, ‹¬ c * i.size = 0›] using this
  refine ⟨C, hC, ?_⟩
  · have hw1 := wrap_nat l (by omega)
    have hw2 := wrap_nat c (by omega)
    have t1 : ¬ ((i.bytes : Int) * Int.ofNat c > 2 ^ 48) := by
      have : (i.bytes : Int) * Int.ofNat c = ((c * i.bytes : Nat) : Int) := by rw [Nat.mul_comm]; rfl
      rw [this]; omega
    have t2 : ¬ (Int.ofNat c < 0) := by simp
    have t3 : ¬ (Int.ofNat l < 0) := by simp
    have t4 : ¬ (Int.ofNat l > Int.ofNat c) := by simpa using hlc
    have hn0 : (Int.ofNat c).toNat = c := rfl
    have hl0 : (Int.ofNat l).toNat = l := rfl
    have hsz : (sizeOf e).run P w = .ok i.size w := by simp [sizeOf, typeInfo, hi]
    simp only [execOp, hop, Instr.makeSlice, Sem.run_bind, run_underlying hu, Result.andThen_ok, ← e1, ← e2, asInt, asIntOf, Sem.run_pure, typeInfo, run_program, hi, hw1, hw2, t1, t2, t3, t4,
      decide_false, Bool.or_self, Bool.false_eq_true, if_false, or_self, run_askRoom, hn0, hl0, hsz]
    by_cases hn : c * i.size = 0
    · simp only [hn, if_true, Sem.run_pure, Result.andThen_ok, newRow, Sem.run_bind, run_newObj]
      simp [C, hn]
    · simp only [hn, if_false, Sem.run_bind, h1, Result.andThen_ok, Sem.run_pure, newRow, run_newObj]
      simp [C, hn]

theorem ok_mks {t e : TypeId} {x y : Operand} {zs : List Value} {i : TypeInfo} {l c : Nat} {k1 k2 : IntKind} (hop : o.op = .makeSlice t x y) (hu : P.underlying t = some (.slice e))
    (hz : zeroAt P e = some zs) (hi : P.info? e = some i) (hlen : zs.length = i.size) (hs1 : 1 ≤ i.size) (hr : HRel G base W0 m H w) (hf : FrRel m fr a.tmps) (hox : okOpnd G x = true) (hoy : okOpnd G y = true)
    (hx : ev fr x = some (.int k1 (.ofNat l))) (hy : ev fr y = some (.int k2 (.ofNat c))) (hlc : l ≤ c) (hcb : c * i.bytes ≤ 140737488355328) (hc : c ≤ 140737488355328) :
    OpOk P G base W0 o a w m H (.slice (some ⟨H.n, 0, none⟩) l c) (H.push ⟨rep c zs, i.size, false, false⟩) := by
  have e1 := flatD_eq 4 _ _ rfl (ev_sound hr hf hox hx)
  have e2 := flatD_eq 4 _ _ rfl (ev_sound hr hf hoy hy)
  obtain ⟨⟨z, h1, h2⟩, h3⟩ := run_zero' hz w
  have hzs : z.cells.toList.length = i.size := by rw [h2, hlen]
  let C : Array Value := (Array.range (c * i.size)).map (fun j => (if c * i.size = 0 then #[] else z.cells)[j % (if c * i.size = 0 then #[] else z.cells).size]!)
  have hC : C.toList = rep c zs := by
    rcases Nat.eq_zero_or_pos c with h0 | h0
    · subst h0; simp [C, rep]
    · have : ¬ c * i.size = 0 := Nat.ne_of_gt (Nat.mul_pos h0 (by omega))
      have := range_rep z.cells c i.size hzs
      rw [h2] at this
      simpa [C, ‹¬ c * i.size = 0›] using this
  obtain ⟨hR, hF⟩ := hr.pushL (rep c zs) C e i.size false false (by omega) [] ⟨rep c zs, flat_lrel m _ (rep_flat c zs h3), by simp [hC]⟩
  refine ⟨_, .slice (some ⟨w.heap.size, 0, none⟩) l c, _, .inl ?_, hR, hF, ?_⟩
  · have hw1 := wrap_nat l (by omega)
    have hw2 := wrap_nat c (by omega)
    have t1 : ¬ ((i.bytes : Int) * Int.ofNat c > 2 ^ 48) := by
      have : (i.bytes : Int) * Int.ofNat c = ((c * i.bytes : Nat) : Int) := by rw [Nat.mul_comm]; rfl
      rw [this]; omega
    have t2 : ¬ (Int.ofNat c < 0) := by simp
    have t3 : ¬ (Int.ofNat l < 0) := by simp
    have t4 : ¬ (Int.ofNat l > Int.ofNat c) := by simpa using hlc
    have hn0 : (Int.ofNat c).toNat = c := rfl
    have hl0 : (Int.ofNat l).toNat = l := rfl
    have hsz : (sizeOf e).run P w = .ok i.size w := by simp [sizeOf, typeInfo, hi]
    simp only [execOp, hop, Instr.makeSlice, Sem.run_bind, run_underlying hu, Result.andThen_ok, ← e1, ← e2, asInt, asIntOf, Sem.run_pure, typeInfo, run_program, hi, hw1, hw2, t1, t2, t3, t4,
      decide_false, Bool.or_self, Bool.false_eq_true, if_false, or_self, run_askRoom, hn0, hl0, hsz]
    by_cases hn : c * i.size = 0
    · simp only [hn, if_true, Sem.run_pure, Result.andThen_ok, newRow, Sem.run_bind, run_newObj]
      simp [C, hn]
    · simp only [hn, if_false, Sem.run_bind, h1, Result.andThen_ok, Sem.run_pure, newRow, run_newObj]
      simp [C, hn]
  · have hCs : C.size = c * i.size := by rw [← Array.length_toList, hC, rep_length, hlen]
    exact push_sl m w _ _ _ _ l c c _ _ hlc (Nat.le_refl _) (fun _ => rfl) (fun h => by simp at h) (by rw [hCs]; exact Nat.le_refl _)

theorem optEv_sound (hr : HRel G base W0 m H w) (hf : FrRel m fr a.tmps) {x : Option Operand} (ho : ∀ y, x = some y → okOpnd G y = true) {v : Option Value} (hx : optEv fr x = some v)
    {d n : Nat} (hn : natOf d v = some n) : (x = none ∧ n = d ∧ v = none) ∨ ∃ y k, x = some y ∧ a.eval y = .int k (.ofNat n) := by
  cases x with
  | none => simp [optEv] at hx; subst hx; simp [natOf] at hn; exact .inl ⟨rfl, hn.symm, rfl⟩
  | some y =>
    simp only [optEv] at hx
    cases he : ev fr y with
    | none => simp [he] at hx
    | some u =>
      simp [he] at hx; subst hx
      cases u <;> simp [natOf] at hn
      rename_i k z
      cases z <;> simp [natOf] at hn
      subst hn
      exact .inr ⟨y, k, rfl, (flatD_eq 4 _ _ rfl (ev_sound hr hf (ho y rfl) he)).symm⟩

theorem run_sliceBound {k : IntKind} {n y : Nat} (h : n ≤ y) (code : BoundsCode) (w : World) : (Instr.sliceBound (.int k (.ofNat n)) y code).run P w = .ok n w := by
  have h1 : (0 : Int) ≤ Int.ofNat n ∧ Int.ofNat n ≤ (y : Int) := ⟨Int.natCast_nonneg n, Int.ofNat_le.2 h⟩
  simp only [Instr.sliceBound, asIntOf, Sem.run_bind, Sem.run_pure, Result.andThen_ok, h1, and_self, if_true]
  rfl

theorem run_sliceBound' {k : IntKind} {n y : Nat} (h : n ≤ y) (code : BoundsCode) (w : World) : (Instr.sliceBound (.int k (n : Int)) y code).run P w = .ok n w := run_sliceBound h code w

theorem or3 {A B C D : Prop} (h : (A ∧ B ∧ C) ∨ D) : (A ∧ B) ∨ D := h.imp (fun x => ⟨x.1, x.2.1⟩) id

theorem bound_opt {x : Option Operand} {n d : Nat} (h : (x = none ∧ n = d) ∨ ∃ y k, x = some y ∧ a.eval y = .int k (.ofNat n)) :
    (x.map a.eval = none ∧ n = d) ∨ ∃ k, x.map a.eval = some (.int k (.ofNat n)) := by
  rcases h with ⟨rfl, h⟩ | ⟨y, k, rfl, h⟩
  · exact .inl ⟨rfl, h⟩
  · exact .inr ⟨k, by simp [h]⟩

/-- the bounds of a slice expression: with a max, or without -/
theorem run_sliceBounds {lo hi mx : Option Value} {len cap i h mm : Nat} (isS : Bool)
    (hlo : (lo = none ∧ i = 0) ∨ ∃ k, lo = some (.int k (.ofNat i))) (hhi : (hi = none ∧ h = len) ∨ ∃ k, hi = some (.int k (.ofNat h)))
    (hmx : (mx = none ∧ mm = cap) ∨ ∃ k, mx = some (.int k (.ofNat mm))) (hmh : mx.isSome = true → hi.isSome = true) (h1 : i ≤ h) (h2 : h ≤ mm) (h3 : mm ≤ cap) (w : World) :
    (Instr.sliceBounds isS len cap lo hi mx).run P w = .ok (i, h, mm) w := by
  rcases hmx with ⟨rfl, rfl⟩ | ⟨km, rfl⟩
  · rcases hhi with ⟨rfl, rfl⟩ | ⟨kh, rfl⟩
    · rcases hlo with ⟨rfl, rfl⟩ | ⟨kl, rfl⟩
      · simp [Instr.sliceBounds]
      · simp [Instr.sliceBounds, run_sliceBound' h1]
    · rcases hlo with ⟨rfl, rfl⟩ | ⟨kl, rfl⟩
      · simp [Instr.sliceBounds, run_sliceBound' h2]
      · simp [Instr.sliceBounds, run_sliceBound' h2, run_sliceBound' h1]
  · rcases hhi with ⟨rfl, rfl⟩ | ⟨kh, rfl⟩
    · simp at hmh
    · rcases hlo with ⟨rfl, rfl⟩ | ⟨kl, rfl⟩
      · simp [Instr.sliceBounds, run_sliceBound' h3, run_sliceBound' h2]
      · simp [Instr.sliceBounds, run_sliceBound' h3, run_sliceBound' h2, run_sliceBound' h1]

theorem ok_slc {t e : TypeId} {sz : Nat} {x : Operand} {lo hi mx : Option Operand} (hop : o.op = .slice t x lo hi mx) (hu : P.underlying t = some (.slice e)) (hs : sizeAt P e = some sz)
    (hr : HRel G base W0 m H w) (hf : FrRel m fr a.tmps) (hox : okOpnd G x = true) (hol : ∀ y, lo = some y → okOpnd G y = true) (hoh : ∀ y, hi = some y → okOpnd G y = true)
    (hom : ∀ y, mx = some y → okOpnd G y = true) {v r : Value} {va vb vc : Option Value} (hx : ev fr x = some v) (ha : optEv fr lo = some va) (hb : optEv fr hi = some vb) (hc : optEv fr mx = some vc)
    (hmh : mx.isSome = true → hi.isSome = true) (hxs : xslc H sz v va vb vc = some r) : OpOk P G base W0 o a w m H r H := by
  have h := ev_sound hr hf hox hx
  generalize hq : a.eval x = q at h
  unfold xslc at hxs
  split at hxs
  · -- nil
    split at hxs
    · rename_i n1 n2 n3
      simp at hxs; subst hxs
      have hl := optEv_sound hr hf hol ha n1
      have hh := optEv_sound hr hf hoh hb n2
      have hm := optEv_sound hr hf hom hc n3
      have hq' := flatD_eq 4 _ _ rfl h
      refine .same hr (v' := .slice none 0 0) ?_ .nils
      have hb := run_sliceBounds (P := P) (lo := lo.map a.eval) (hi := hi.map a.eval) (mx := mx.map a.eval) (len := 0) (cap := 0) (i := 0) (h := 0) (mm := 0) true
        (bound_opt (or3 hl)) (bound_opt (or3 hh))
        (bound_opt (or3 hm)) (by simpa using hmh) (Nat.le_refl _) (Nat.le_refl _) (Nat.le_refl _) w
      simp [execOp, hop, Instr.sliceAt, run_underlying hu, Instr.slice, hq, ← hq', hb, run_sizeOf' hs]
    · simp at hxs
  · rename_i B off l c
    split at hxs
    · cases hcond : (Nat.beq l 0 && Nat.beq c 0 && !(isSomeV vc))
      · simp [hcond] at hxs
      · simp only [hcond, cond_true] at hxs
        split at hxs
        · rename_i n1 n2
          simp only [Option.some.injEq] at hxs
          subst hxs
          simp only [Bool.and_eq_true, Bool.not_eq_true'] at hcond
          have l0 : l = 0 := Nat.eq_of_beq_eq_true hcond.1.1
          have c0 : c = 0 := Nat.eq_of_beq_eq_true hcond.1.2
          subst l0 c0
          have hmx : mx = none := by
            cases mx with
            | none => rfl
            | some y =>
              simp only [optEv] at hc
              split at hc
              · simp at hc; subst hc; simp [isSomeV] at hcond
              · simp at hc
          subst hmx
          have hl := optEv_sound hr hf hol ha n1
          have hh := optEv_sound hr hf hoh hb n2
          obtain ⟨ad, c', hqv⟩ : ∃ ad c', q = .slice (some ad) 0 c' := by
            cases h with
            | sl => omega
            | sl0 => exact ⟨_, _, rfl⟩
          subst hqv
          have hb := run_sliceBounds (P := P) (lo := lo.map a.eval) (hi := hi.map a.eval) (mx := none) (len := 0) (cap := c') (i := 0) (h := 0) (mm := c') true
            (bound_opt (or3 hl)) (bound_opt (or3 hh)) (.inl ⟨rfl, rfl⟩) (by simp) (Nat.le_refl _) (Nat.zero_le _) (Nat.le_refl _) w
          refine .same hr (v' := .slice (some ad) 0 c') ?_ h
          have hz : ad.add 0 = ad := rfl
          simp [execOp, hop, Instr.sliceAt, run_underlying hu, Instr.slice, hq, hb, run_sizeOf' hs, hz]
        · simp at hxs
    · rename_i blk hblk
      split at hxs
      · simp at hxs
      · rename_i mm n3
        split at hxs
        · simp at hxs
        · rename_i hh n2
          split at hxs
          · simp at hxs
          · rename_i ii n1
            cases hcond : (Nat.beq blk.sz sz && Nat.ble ii hh && Nat.ble hh mm && Nat.ble mm c && (!(isSomeV vc) || !blk.opn || Nat.blt (off + mm * sz) blk.cells.length))
            · simp only [hcond, cond_false] at hxs
              cases hcond2 : (Nat.beq blk.sz sz && Nat.ble ii hh && Nat.ble hh mm && Nat.ble mm c && isSomeV vc && Nat.blt ii mm)
              · simp [hcond2] at hxs
              · simp only [hcond2, cond_true, Option.some.injEq] at hxs
                subst hxs
                simp only [Bool.and_eq_true, Nat.ble_eq] at hcond2
                obtain ⟨⟨⟨⟨⟨c1, c2⟩, c3⟩, c4⟩, c5⟩, c6⟩ := hcond2
                have c1 : blk.sz = sz := Nat.eq_of_beq_eq_true c1
                have c6 : ii < mm := natlt c6
                obtain ⟨en, hen, hk⟩ := hr.live' hblk h.sl_f
                have hesz : en.sz = sz := by rw [hk.sz, c1]
                have hl := optEv_sound hr hf hol ha n1
                have hhh := optEv_sound hr hf hoh hb n2
                have hm := optEv_sound hr hf hom hc n3
                obtain ⟨c', hqv, hcc⟩ : ∃ c', q = .slice (some ⟨en.b, en.base + off, none⟩) l c' ∧ c ≤ c' := by
                  cases h with
                  | sl _ _ _ _ c' e' he h0 h1 h2 h3 h4 h5 =>
                    obtain rfl : e' = en := by rw [hen] at he; exact (Option.some.inj he).symm
                    exact ⟨c', rfl, h2⟩
                  | sl0 => omega
                subst hqv
                have b1 := bound_opt (or3 hl)
                have b2 := bound_opt (or3 hhh)
                rcases hm with ⟨p1, p2, p3⟩ | ⟨y, k, p1, p2⟩
                · subst p3; simp [isSomeV] at c5
                · subst p1
                  have hb : (Instr.sliceBounds true l c' (lo.map a.eval) (hi.map a.eval) ((some y).map a.eval)).run P w = .ok (ii, hh, mm) w := run_sliceBounds true b1 b2 (.inr ⟨k, by simp [p2]⟩) (by simpa using hmh) c2 c3 (Nat.le_trans c4 hcc) w
                  refine .same hr (v' := .slice (some (Addr.add ⟨en.b, en.base + off, none⟩ (ii * sz))) (hh - ii) (mm - ii)) ?_ ?_
                  · have hne : ¬ mm = ii := by omega
                    simp only [execOp, hop, Instr.sliceAt, Sem.run_bind, run_underlying hu, Result.andThen_ok, Instr.slice, hq, hb, run_sizeOf' hs, Sem.run_pure]
                    split
                    · rename_i h; exact absurd h hne
                    · rfl
                  · rw [addr_add, Nat.add_assoc]
                    exact .slx B _ 0 _ _ en hen (by omega)
            · simp only [hcond, cond_true, Option.some.injEq] at hxs
              subst hxs
              simp only [Bool.and_eq_true, Nat.ble_eq] at hcond
              obtain ⟨⟨⟨⟨c1, c2⟩, c3⟩, c4⟩, c5⟩ := hcond
              have c1 : blk.sz = sz := Nat.eq_of_beq_eq_true c1
              obtain ⟨en, hen, hk⟩ := hr.live' hblk h.sl_f
              have hesz : en.sz = sz := by rw [hk.sz, c1]
              have hl := optEv_sound hr hf hol ha n1
              have hhh := optEv_sound hr hf hoh hb n2
              have hm := optEv_sound hr hf hom hc n3
              have hszp : 0 < en.sz := (hr.dom B en hen).2
              -- what the machine has
              obtain ⟨ad, c', hqv, hcc, hexact, hnex, haddr, hc0l⟩ : ∃ ad c', q = .slice (some ad) l c' ∧ c ≤ c' ∧ (en.exact off c → c' = c) ∧ (¬ en.exact off c → en.base + off + c' * en.sz = en.size) ∧
                  (c' ≠ 0 → ad = ⟨en.b, en.base + off, none⟩ ∧ (0 < c → en.base + off + c' * en.sz ≤ en.size)) ∧ (c = 0 → l = 0) := by
                cases h with
                | sl _ _ _ _ c' e' he h0 h1 h2 h3 h4 h5 =>
                  obtain rfl : e' = en := by rw [hen] at he; exact (Option.some.inj he).symm
                  exact ⟨_, c', rfl, h2, h3, h4, fun _ => ⟨rfl, fun _ => h5⟩, fun hz => by omega⟩
                | sl0 _ _ c' ad e' he h1 h2 h3 =>
                  obtain rfl : e' = en := by rw [hen] at he; exact (Option.some.inj he).symm
                  exact ⟨_, c', rfl, Nat.zero_le _, h1, h2, fun hne => ⟨h3 hne, fun h0 => by omega⟩, fun _ => rfl⟩
              subst hqv
              -- the bounds there
              obtain ⟨m', hm', hmb⟩ : ∃ m', (mm ≤ m' ∧ m' ≤ c' ∧ (en.exact off c → m' = mm) ∧ (mx.isSome = true → m' = mm) ∧ (mx.isSome = false → m' = c')) ∧
                  (Instr.sliceBounds true l c' (lo.map a.eval) (hi.map a.eval) (mx.map a.eval)).run P w = .ok (ii, hh, m') w := by
                have b1 := bound_opt (or3 hl)
                have b2 := bound_opt (or3 hhh)
                rcases hm with ⟨p1, p2, p3⟩ | ⟨y, k, p1, p2⟩
                · subst p1; subst p2
                  refine ⟨c', ⟨hcc, Nat.le_refl _, hexact, by simp, fun _ => rfl⟩, ?_⟩
                  exact run_sliceBounds true b1 b2 (.inl ⟨rfl, rfl⟩) (by simp) c2 (Nat.le_trans c3 hcc) (Nat.le_refl _) w
                · subst p1
                  refine ⟨mm, ⟨Nat.le_refl _, Nat.le_trans c4 hcc, fun _ => rfl, fun _ => rfl, by simp⟩, ?_⟩
                  exact run_sliceBounds true b1 b2 (.inr ⟨k, by simp [p2]⟩) (by simpa using hmh) c2 c3 (Nat.le_trans c4 hcc) w
              refine .same hr (v' := .slice (some (if m' = ii then ad else ad.add (ii * sz))) (hh - ii) (m' - ii)) ?_ ?_
              · simp only [execOp, hop, Instr.sliceAt, Sem.run_bind, run_underlying hu, Result.andThen_ok, Instr.slice, hq, hmb, run_sizeOf' hs, Sem.run_pure]
                split <;> rfl
              · -- is the room known to be exact?
                have hmxs : mx.isSome = true → blk.opn = false ∨ off + mm * sz < blk.cells.length := by
                  intro hmx
                  have hvc : isSomeV vc = true := by
                    cases mx with
                    | none => simp at hmx
                    | some y =>
                      simp only [optEv] at hc
                      split at hc
                      · simp at hc; subst hc; rfl
                      · simp at hc
                  simp only [hvc, Bool.not_true, Bool.false_or, Bool.or_eq_true, Bool.not_eq_true'] at c5
                  exact c5.imp id natlt
                have hmn : mx.isSome = false → mm = c := by
                  intro hmx
                  rcases hm with ⟨_, p2, _⟩ | ⟨y, k, p1, _⟩
                  · exact p2
                  · rw [p1] at hmx; simp at hmx
                have hmul : ii * sz + (mm - ii) * sz = mm * sz := by rw [← Nat.add_mul]; congr 1; omega
                have hmul' : ii * sz + (m' - ii) * sz = m' * sz := by rw [← Nat.add_mul]; congr 1; omega
                have hmm' : m' * sz ≤ c' * sz := Nat.mul_le_mul_right _ (by omega)
                -- exactness goes over
                have hexm : en.exact (off + ii * sz) (mm - ii) → m' = mm := by
                  intro hex
                  cases hmx : mx.isSome
                  · have hmc := hmn hmx
                    refine hm'.2.2.1 ?_
                    rcases hex with hex | hex
                    · exact .inl hex
                    · right; rw [hesz] at hex ⊢; rw [← hmc]; omega
                  · exact hm'.2.2.2.1 hmx
                have hnexm : ¬ en.exact (off + ii * sz) (mm - ii) → m' = c' ∧ ¬ en.exact off c := by
                  intro hnx
                  cases hmx : mx.isSome
                  · have hmc := hmn hmx
                    have hnx2 : ¬ en.exact off c := fun hex => hnx (by
                      rcases hex with hex | hex
                      · exact .inl hex
                      · right; rw [hesz] at hex ⊢; rw [← hmc] at hex; omega)
                    refine ⟨?_, hnx2⟩
                    exact hm'.2.2.2.2 hmx
                  · exact absurd (by
                      rcases hmxs hmx with h | h
                      · left; rw [hk.opn, h]
                      · right; rw [hesz, hk.kn]; omega) hnx
                rcases Nat.eq_zero_or_pos (mm - ii) with h0 | h0
                · have hhi0 : hh - ii = 0 := by omega
                  have hmi : mm = ii := by omega
                  rw [h0] at hexm hnexm
                  rw [h0, hhi0]
                  refine .sl0 B _ (m' - ii) _ en hen ?_ ?_ ?_
                  · intro hex; have := hexm hex; omega
                  · intro hnx
                    obtain ⟨hmc, hnx2⟩ := hnexm hnx
                    have := hnex hnx2
                    rw [hesz] at this ⊢
                    rw [hmc] at hmul' ⊢
                    omega
                  · intro hne
                    have hne' : ¬ m' = ii := by omega
                    rw [if_neg hne']
                    obtain ⟨z1, _⟩ := haddr (by omega)
                    rw [z1, addr_add, Nat.add_assoc]
                · obtain ⟨z1, z2⟩ := haddr (by omega)
                  have hne' : ¬ m' = ii := by omega
                  rw [if_neg hne', z1, addr_add]
                  have z2 := z2 (by omega)
                  have hgo := VRel.sl (m := m) B (off + ii * sz) (hh - ii) (mm - ii) (m' - ii) en hen h0 (by omega) (by omega) (fun hex => by rw [hexm hex]) (fun hnx => by
                      obtain ⟨hmc, hnx2⟩ := hnexm hnx
                      have := hnex hnx2
                      rw [hesz] at this ⊢
                      rw [hmc] at hmul' ⊢
                      omega) (by rw [hesz] at z2 ⊢; omega)
                  rw [← Nat.add_assoc] at hgo; exact hgo
  · simp at hxs

end Go.Det

set_option linter.unusedSimpArgs false
set_option linter.unusedVariables false
namespace Go.Det

variable {P : Program} {G base : Nat} {W0 : World} {m : Mp} {H : AH} {w : World} {fr : Fr} {a : Act} {o : Oper}

theorem strCells_flat (s : ByteArray) : ∀ z ∈ strCells s, flatD 4 z = true := by
  intro z hz
  simp only [strCells, List.mem_map] at hz
  obtain ⟨b, _, rfl⟩ := hz
  rfl

theorem run_firstCells (hr : HRel G base W0 m H w) {sz n : Nat} {y y' : Value} {cs : List Value} (hv : VRel m y y') (hs : src H sz n y = some cs) :
    ∃ cs', (Builtin.firstCells sz n y').run P w = .ok cs'.toArray w ∧ LRel m cs cs' ∧ cs.length = n * sz := by
  unfold src at hs
  split at hs
  · cases hn : Nat.beq n 0
    · simp [hn] at hs
    · simp [hn] at hs; subst hs
      have hn0 : n = 0 := Nat.eq_of_beq_eq_true hn
      have : ∃ l c, y' = .slice none l c := by cases hv; exact ⟨_, _, rfl⟩
      obtain ⟨l, c, rfl⟩ := this
      exact ⟨[], by simp [Builtin.firstCells], .nil, by simp [hn0]⟩
  · rename_i B off l c
    split at hs
    · rename_i blk hb
      cases hcond : (Nat.ble n l && Nat.ble (off + n * sz) blk.cells.length && ((blk.cells.drop off).take (n * sz)).all one)
      · simp [hcond] at hs
      · simp only [hcond, cond_true, Option.some.injEq] at hs
        subst hs
        simp only [Bool.and_eq_true, Nat.ble_eq] at hcond
        obtain ⟨hcond, _⟩ := hcond
        obtain ⟨en, hen, hk⟩ := hr.live' hb hv.sl_f
        rcases Nat.eq_zero_or_pos (n * sz) with h0 | h0
        · have : ∃ ad l' c', y' = .slice (some ad) l' c' := by cases hv <;> exact ⟨_, _, _, rfl⟩
          obtain ⟨ad, l', c', rfl⟩ := this
          exact ⟨[], by simp [Builtin.firstCells, h0, loadCells, loadCellsFrom], by simpa [h0] using LRel.nil, by simp [h0]⟩
        · have hn : 0 < n := Nat.pos_of_mul_pos_right h0
          cases hv with
          | sl _ _ _ _ c' e' he g0 g1 g2 g3 g4 g5 =>
            obtain ⟨cs', h1, h2⟩ := run_loadCells_rel (P := P) hr hb he off (n * sz) hcond.2
            exact ⟨cs', by simp [Builtin.firstCells, h1], h2, by simp; omega⟩
          | sl0 => omega
    · cases hn : Nat.beq n 0
      · simp [hn] at hs
      · simp [hn] at hs; subst hs
        have hn0 : n = 0 := Nat.eq_of_beq_eq_true hn
        subst hn0
        have : ∃ ad l' c', y' = .slice (some ad) l' c' := by cases hv <;> exact ⟨_, _, _, rfl⟩
        obtain ⟨ad, l', c', rfl⟩ := this
        exact ⟨[], by simp [Builtin.firstCells, loadCells, loadCellsFrom], .nil, by simp⟩
  · rename_i s
    cases hcond : (Nat.beq sz 1 && Nat.beq n s.size)
    · simp [hcond] at hs
    · simp only [hcond, cond_true, Option.some.injEq] at hs
      subst hs
      simp only [Bool.and_eq_true] at hcond
      have c1 : sz = 1 := Nat.eq_of_beq_eq_true hcond.1
      have c2 : n = s.size := Nat.eq_of_beq_eq_true hcond.2
      subst c1 c2
      have hq := flatD_eq 4 _ _ rfl hv
      subst hq
      refine ⟨strCells s, ?_, flat_lrel m _ (strCells_flat s), by rw [strCells, List.length_map, Nat.mul_one]; rfl⟩
      have : (s.extract 0 s.size) = s := ByteArray.extract_zero_size
      simp only [Builtin.firstCells, this, Sem.run_pure]
      have h2 : s.data.map (fun b => Value.int .u8 b.toNat) = (strCells s).toArray := by
        apply Array.ext'
        rw [Array.toList_map]; rfl
      rw [h2]
  · simp at hs

theorem src_one {sz n : Nat} {y : Value} {cs : List Value} (hs : src H sz n y = some cs) : cs.all one = true := by
  unfold src at hs
  split at hs
  · cases hn : Nat.beq n 0
    · simp [hn] at hs
    · simp [hn] at hs; subst hs; rfl
  · rename_i B off l c
    split at hs
    · rename_i blk hb
      cases hcond : (Nat.ble n l && Nat.ble (off + n * sz) blk.cells.length && ((blk.cells.drop off).take (n * sz)).all one)
      · simp [hcond] at hs
      · simp only [hcond, cond_true, Option.some.injEq] at hs
        subst hs
        simp only [Bool.and_eq_true] at hcond
        exact hcond.2
    · cases hn : Nat.beq n 0
      · simp [hn] at hs
      · simp [hn] at hs; subst hs; rfl
  · rename_i s
    cases hcond : (Nat.beq sz 1 && Nat.beq n s.size)
    · simp [hcond] at hs
    · simp only [hcond, cond_true, Option.some.injEq] at hs
      subst hs
      refine List.all_eq_true.2 fun z hz => ?_
      simp only [strCells, List.mem_map] at hz
      obtain ⟨b, _, rfl⟩ := hz
      rfl
  · simp at hs

theorem srcLen_run {y y' : Value} {n : Nat} (h : srcLen y = some n) (hv : VRel m y y') (w : World) : (Builtin.lenOf y').run P w = .ok n w := by
  unfold srcLen at h
  split at h
  · simp at h; subst h
    cases hv <;> simp [Builtin.lenOf]
  · simp at h; subst h
    have hq := flatD_eq 4 _ _ rfl hv
    subst hq
    simp [Builtin.lenOf]
  · simp at h

theorem growBy_le (need : Nat) : ∀ (r c : Nat), c < need → 256 ≤ c → Builtin.growBy need r c ≤ 2 * need
  | 0, c, h, h2 => by simp [Builtin.growBy]; omega
  | r + 1, c, h, h2 => by
    simp only [Builtin.growBy]
    split
    · omega
    · by_cases h3 : c + (c + 768) / 4 < need
      · exact growBy_le need r _ h3 (by omega)
      · cases r with
        | zero => simp [Builtin.growBy]; omega
        | succ r =>
          simp only [Builtin.growBy]
          rw [if_pos (by omega)]
          omega

theorem nextcap_le (need old : Nat) (h : old < need) : Builtin.nextslicecap need old ≤ 2 * need := by
  unfold Builtin.nextslicecap
  split
  · omega
  · split
    · omega
    · exact growBy_le need 4 old h (by omega)

/-- stores into one block -/
theorem run_storeCells_blk : ∀ (vs : List Value) (i o b : Nat) (c : Array Value) (t : TypeId) (fz : Nat × Nat) (w : World), w.heap[b]? = some (.cells c t fz) → o + i + vs.length ≤ c.size →
    Thaw fz c.size → (∀ x ∈ vs, x.oneCell' = true) → base ≤ b → Go.RowKit.Below base W0 w →
    ∃ w' c2, (storeCells ⟨b, o, none⟩ vs i).run P w = .ok () w' ∧ w'.heap[b]? = some (.cells c2 t fz) ∧ c2.size = c.size ∧
      (∀ j, c2[j]? = if o + i ≤ j ∧ j < o + i + vs.length then vs[j - (o + i)]? else c[j]?) ∧ (∀ k, k ≠ b → w'.heap[k]? = w.heap[k]?) ∧ w'.heap.size = w.heap.size ∧ Go.RowKit.Below base W0 w'
  | [], i, o, b, c, t, fz, w, hb, hl, hz, ho, hbb, hbel => ⟨w, c, by simp [storeCells], hb, rfl, fun j => by simp; intro h1 h2; omega, fun _ _ => rfl, rfl, hbel⟩
  | v :: vs, i, o, b, c, t, fz, w, hb, hl, hz, ho, hbb, hbel => by
    simp only [List.length_cons] at hl
    have hin : o + i < c.size := by omega
    have hw1 := setCell_heap w ⟨b, o + i, none⟩ rfl v c t fz hb
    obtain ⟨w', c2, h1, h2, h3, h4, h5, h6, h7⟩ := run_storeCells_blk vs (i + 1) o b (c.setIfInBounds (o + i) v) t fz (w.setCell ⟨b, o + i, none⟩ v) hw1 (by simp; omega)
      (by simpa using hz) (fun x hx => ho x (by simp [hx])) hbb (hbel.setCell (p := ⟨b, o + i, none⟩) hbb v)
    refine ⟨w', c2, ?_, h2, by simpa using h3, ?_, ?_, by simpa using h6, h7⟩
    · simp only [storeCells, Sem.run_bind]
      rw [run_store P w _ _ _ (ho v (by simp)), addr_add]
      have hcell : w.cell? ⟨b, o + i, none⟩ = some c[o + i] := by simp [World.cell?, hb, hin]
      have hfr : w.frozen? ⟨b, o + i, none⟩ = false := by
        simp only [World.frozen?, hb]
        have := hz.2 _ hin
        simp only [Bool.and_eq_false_iff, decide_eq_false_iff_not]
        omega
      simp only [hcell, hfr, Bool.false_eq_true, if_false, Result.andThen_ok]
      exact h1
    · intro j
      rw [h4 j]
      by_cases hj : j = o + i
      · subst hj
        rw [if_neg (by omega), if_pos (by simp)]
        simp [hin]
      · by_cases hj2 : o + (i + 1) ≤ j ∧ j < o + (i + 1) + vs.length
        · rw [if_pos hj2, if_pos (by simp; omega)]
          obtain ⟨d, rfl⟩ : ∃ d, j = o + i + 1 + d := ⟨j - (o + i + 1), by omega⟩
          rw [show o + i + 1 + d - (o + (i + 1)) = d by omega, show o + i + 1 + d - (o + i) = d + 1 by omega]
          simp
        · rw [if_neg hj2, if_neg (by simp; omega)]
          rw [Array.getElem?_setIfInBounds_ne (by omega)]
    · intro k hk
      rw [h5 k hk, setCell_heap_ne _ _ _ _ (by simpa using hk)]

/-- a block that goes on under another number -/
theorem HRel.take {B : Nat} {blk : Blk} {e : Ent} (h : HRel G base W0 m H w) (hb : H.get B = some blk) (he : m.f B = some e) (hro : e.ro = false) {w' : World} {c2 : Array Value} {t : TypeId} {fz : Nat × Nat}
    (hw : w'.heap[e.b]? = some (.cells c2 t fz)) (hs : c2.size = e.size) (hfz : Thaw fz c2.size) (ho : ∀ k, k ≠ e.b → w'.heap[k]? = w.heap[k]?) (hsz : w'.heap.size = w.heap.size)
    (hbel : Go.RowKit.Below base W0 w') (hbase : base ≤ e.b) (cs : List Value) (b2 sz : Nat) (hsz0 : 0 < sz) (hlen : b2 + cs.length ≤ e.size)
    (hc : ∀ (i : Nat) (v : Value), cs[i]? = some v → ∃ v', c2[b2 + i]? = some v' ∧ VRel m v v') :
    HRel G base W0 (m.set H.n ⟨e.b, b2, e.size, cs.length, sz, true, false⟩) ((H.kill B).push ⟨cs, sz, true, false⟩) w' ∧
    Fut m H w (m.set H.n ⟨e.b, b2, e.size, cs.length, sz, true, false⟩) ((H.kill B).push ⟨cs, sz, true, false⟩) w' := by
  have hext := m.ext_set ⟨e.b, b2, e.size, cs.length, sz, true, false⟩ h.fresh
  have hother : ∀ C blk2 e2, C ≠ B → H.get C = some blk2 → m.f C = some e2 → e2.b ≠ e.b := by
    intro C blk2 e2 hCB hC hC2 x
    exact h.apart B C blk blk2 e e2 hb hC he hC2 (fun y => hCB y.symm) hro x.symm
  have hget : ∀ C b, C ≠ H.n → ((H.kill B).push ⟨cs, sz, true, false⟩).get C = some b → C ≠ B ∧ H.get C = some b := by
    intro C b hCn hC
    rw [AH.get_push] at hC
    have hCn' : ¬ C = (H.kill B).n := hCn
    rw [if_neg hCn', AH.get_kill] at hC
    by_cases hCB : C = B
    · simp [hCB] at hC
    · exact ⟨hCB, by simpa [hCB] using hC⟩
  have hgetn : ((H.kill B).push ⟨cs, sz, true, false⟩).get H.n = some ⟨cs, sz, true, false⟩ := by
    rw [AH.get_push]; simp
  have hblt := h.b_lt hb he
  refine ⟨{ below := hbel, bs := by rw [hsz]; exact h.bs, dom := ?_, apart := ?_, glob := ?_, live := ?_, maps := ?_, hid := ?_ }, ?_⟩
  · intro C blk' hC
    by_cases hCn : C = H.n
    · subst hCn
      rw [hgetn] at hC; cases hC
      refine .inl ⟨⟨e.b, b2, e.size, cs.length, sz, true, false⟩, by simp [Mp.set], { kn := rfl, sz := rfl, opn := rfl, ro := rfl, at_ := ⟨c2, t, fz, hw, hs, hlen, ?_, fun _ => ⟨hbase, hfz⟩⟩ }⟩
      intro i v hi
      obtain ⟨v', g1, g2⟩ := hc i v hi
      exact ⟨v', g1, g2.mono hext⟩
    · obtain ⟨hCB, hC'⟩ := hget C blk' hCn hC
      rcases h.live C blk' hC' with ⟨e2, he2, hk2⟩ | hg
      case inr => exact .inr hg
      refine .inl ⟨e2, by simp [Mp.set, hCn, he2], { kn := hk2.kn, sz := hk2.sz, opn := hk2.opn, ro := hk2.ro, at_ := ?_ }⟩
      obtain ⟨c', t', fz', g0, g1, g2, g3, g4⟩ := hk2.at_
      exact ⟨c', t', fz', by rw [ho _ (hother C blk' e2 hCB hC' he2)]; exact g0, g1, g2, (fun i v hi => let ⟨v', x, y⟩ := g3 i v hi; ⟨v', x, y.mono hext⟩), g4⟩
  · intro C b hg
    obtain ⟨a1, a2, a3, a4, ap, al, blk2, a5, a6⟩ := h.maps C b hg
    have hCn : C ≠ H.n := by omega
    have hCB : C ≠ B := fun x => by subst x; rw [he] at a1; cases a1
    have hCn' : ¬ C = (H.kill B).n := hCn
    refine ⟨by simp [Mp.set, hCn, a1], by simp; omega, a3, a4, fun D bl e2 hD he2 => ?_, by rw [hsz]; exact al, blk2, by rw [AH.get_push, if_neg hCn', AH.get_kill, if_neg hCB]; exact a5, a6.keep hg (fun k hD => ho k (fun x => h.objne hD hb he x.symm)) hext⟩
    simp only [Mp.set] at he2
    by_cases hDn : D = H.n
    · simp [hDn] at he2; subst he2
      exact ap B blk e hb he
    · simp [hDn] at he2
      exact ap D bl e2 (hget D bl hDn hD).2 he2
  · intro k c hk2
    obtain ⟨a1, a2, a3, a4⟩ := h.hid k c hk2
    refine ⟨a1, by rw [hsz]; exact a2, fun D bl e2 hD he2 => ?_, a4⟩
    simp only [Mp.set] at he2
    by_cases hDn : D = H.n
    · simp [hDn] at he2; subst he2
      exact a3 B blk e hb he
    · simp [hDn] at he2
      exact a3 D bl e2 (hget D bl hDn hD).2 he2
  · intro C e2 he2
    simp only [Mp.set] at he2
    by_cases hCn : C = H.n
    · simp [hCn] at he2; subst he2; simp [hCn, hsz0]
    · simp [hCn] at he2; have := h.dom C e2 he2; exact ⟨by simp; omega, this.2⟩
  · intro C C' b1 b2' e1 e2 g1 g2 h1 h2 hne hro'
    simp only [Mp.set] at h1 h2
    by_cases hCn : C = H.n
    · by_cases hCn' : C' = H.n
      · omega
      · simp [hCn] at h1; simp [hCn'] at h2; subst h1
        obtain ⟨k1, k2⟩ := hget C' b2' hCn' g2
        exact (hother C' b2' e2 k1 k2 h2).symm
    · simp [hCn] at h1
      obtain ⟨k1, k2⟩ := hget C b1 hCn g1
      by_cases hCn' : C' = H.n
      · simp [hCn'] at h2; subst h2
        exact hother C b1 e1 k1 k2 h1
      · simp [hCn'] at h2
        obtain ⟨k3, k4⟩ := hget C' b2' hCn' g2
        exact h.apart C C' b1 b2' e1 e2 k2 k4 h1 h2 hne hro'
  · refine ⟨Nat.le_trans h.glob.1 (by simp), fun g hg => ?_⟩
    have hgn : ¬ g = H.n := by have := h.glob.1; omega
    simp only [Mp.set, hgn, if_false]
    exact h.glob.2 g hg
  · refine ⟨hext, Nat.le_of_eq hsz.symm, by simp, fun k hk hn => ⟨ho k (fun x => hn (.inl ⟨B, blk, e, hb, he, hro, x.symm⟩)), ?_⟩, fun C hC => ?_, fun k hk hn => ?_⟩
    rotate_left 2
    · rintro (⟨C, b1, e1, g1, g2, g4⟩ | hx)
      · simp only [Mp.set] at g2
        by_cases hCn : C = H.n
        · simp [hCn] at g2; subst g2
          exact hn (.inl ⟨B, blk, e, hb, he, g4⟩)
        · simp [hCn] at g2
          obtain ⟨k1, k2⟩ := hget C b1 hCn g1
          exact hn (.inl ⟨C, b1, e1, k2, g2, g4⟩)
      · exact hn (.inr hx)
    · rintro (⟨C, b1, e1, g1, g2, g3, g4⟩ | hx)
      · simp only [Mp.set] at g2
        by_cases hCn : C = H.n
        · simp [hCn] at g2; subst g2
          exact hn (.inl ⟨B, blk, e, hb, he, hro, g4⟩)
        · simp [hCn] at g2
          obtain ⟨k1, k2⟩ := hget C b1 hCn g1
          exact hn (.inl ⟨C, b1, e1, k2, g2, g3, g4⟩)
      · exact hn (.inr hx)
    · have hCn : ¬ C = H.n := by omega
      refine ⟨by simp [Mp.set, hCn], fun x => ?_⟩
      have hCn' : ¬ C = (H.kill B).n := hCn
      rw [AH.get_push, if_neg hCn', AH.get_kill]
      by_cases hCB : C = B
      · simp [hCB]
      · simp [hCB, x]

theorem zeroCells_len (z : Array Value) (n : Nat) : (Builtin.zeroCells z n).size = n * z.size := by simp [Builtin.zeroCells]

theorem cellOne (hr : HRel G base W0 m H w) {v v' : Value} (h : VRel m v v') (ho : one v = true) : v'.oneCell' = true := by
  cases h <;> first | rfl | simp [one] at ho

theorem lrel_one {xs ys : List Value} (h : LRel m xs ys) (hr : HRel G base W0 m H w) (ho : xs.all one = true) : ∀ y ∈ ys, y.oneCell' = true := by
  intro y hy
  obtain ⟨i, hi⟩ := List.getElem?_of_mem hy
  have hlt : i < xs.length := by rw [h.1]; exact (List.getElem?_eq_some_iff.1 hi).1
  obtain ⟨y', h1, h2⟩ := h.2 i _ (List.getElem?_eq_getElem hlt)
  rw [hi] at h1; simp at h1; subst h1
  exact cellOne hr h2 (List.all_eq_true.1 ho _ (List.getElem_mem hlt))

/-- the run of append where there is room -/
theorem run_app_room {t e u : TypeId} {sz n l c' : Nat} {d : TypeDesc} {p : Option Addr} {y' : Value} {cs' : List Value} {w' : World} {args : Array Value} {argTypes : Array TypeId} {ty : TypeId}
    (ht : argTypes[0]? = some t) (hu' : argTypes[1]? = some u) (ha0 : args[0]? = some (.slice p l c')) (ha1 : args[1]? = some y')
    (hu : P.underlying t = some (.slice e)) (hd : P.underlying u = some d) (hd2 : ∀ k, d ≠ .int k) (hs : sizeAt P e = some sz) (hn : (Builtin.lenOf y').run P w = .ok n w)
    (hc : (Builtin.firstCells sz n y').run P w = .ok cs'.toArray w) (hroom : l + n ≤ c') (hst : ∀ ad, p = some ad → (storeCells (ad.add (l * sz)) cs').run P w = .ok () w') (hnone : p = none → w' = w) :
    (Builtin.append_ argTypes ty args).run P w = .ok (.slice p (l + n) c') w' := by
  have hnint : (match d with | .int _ => true | _ => false) = false := by cases d <;> first | rfl | (exact absurd rfl (hd2 _))
  unfold Builtin.append_
  simp only [ht, ha0, ha1, hu', Sem.run_bind, run_underlying hu, Result.andThen_ok, run_sizeOf' hs, run_underlying hd, Sem.run_pure, hnint, Bool.false_eq_true, if_false, hn, hroom, if_true]
  cases p with
  | none => simp [hc, hnone rfl]
  | some ad => simp [hc, hst ad rfl]

theorem run_app_grow {t e u : TypeId} {sz n l c' : Nat} {d : TypeDesc} {p : Option Addr} {y' : Value} {cs' olds : List Value} {args : Array Value} {argTypes : Array TypeId} {ty : TypeId} {i : TypeInfo} {z : Value}
    (ht : argTypes[0]? = some t) (hu' : argTypes[1]? = some u) (ha0 : args[0]? = some (.slice p l c')) (ha1 : args[1]? = some y')
    (hu : P.underlying t = some (.slice e)) (hd : P.underlying u = some d) (hd2 : ∀ k, d ≠ .int k) (hi : P.info? e = some i) (hsz : i.size = sz) (hb1 : 1 ≤ i.bytes) (hn : (Builtin.lenOf y').run P w = .ok n w)
    (hc : (Builtin.firstCells sz n y').run P w.drew = .ok cs'.toArray w.drew) (hroom : ¬ l + n ≤ c') (hold : (Builtin.firstCells sz l (.slice p l c')).run P w.drew = .ok olds.toArray w.drew)
    (hz : (zeroValue e).run P w.drew = .ok z w.drew) (hbytes : (l + n) * i.bytes ≤ 140737488355328) :
    ∃ nc, l + n ≤ nc ∧ (Builtin.append_ argTypes ty args).run P w =
      .ok (.slice (some ⟨w.heap.size, 0, none⟩) (l + n) nc) { w with drawn := w.drawn + 1, heap := w.heap.push (.cells (olds.toArray ++ cs'.toArray ++ Builtin.zeroCells z.cells (nc - (l + n))) e (0, 0)) } := by
  have hnint : (match d with | .int _ => true | _ => false) = false := by cases d <;> first | rfl | (exact absurd rfl (hd2 _))
  have hbig : ¬ (Builtin.nextslicecap (l + n) c' * i.bytes > 2 ^ 48) := by
    have h1 := nextcap_le (l + n) c' (by omega)
    have h2 : Builtin.nextslicecap (l + n) c' * i.bytes ≤ 2 * (l + n) * i.bytes := Nat.mul_le_mul_right _ h1
    rw [Nat.mul_assoc] at h2
    omega
  have hb0 : ¬ i.bytes = 0 := by omega
  refine ⟨(Question.appendCap (l + n) c' e).cut (w.tape w.drawn (Question.appendCap (l + n) c' e)), by simp [Question.cut], ?_⟩
  unfold Builtin.append_
  have hsO : (sizeOf e).run P w = .ok sz w := by simp [sizeOf, typeInfo, hi, hsz]
  simp only [ht, ha0, ha1, hu', Sem.run_bind, run_underlying hu, Result.andThen_ok, hsO, run_underlying hd, Sem.run_pure, hnint, Bool.false_eq_true, if_false, hn, hroom, typeInfo, run_program, hi, hb0, false_or,
    hbig, or_self, and_false, run_choose, Question.forced, run_askRoom]
  simp only [World.drew] at hold hc hz
  simp only [hold, hc, hz, Result.andThen_ok, newRow, Sem.run_bind, run_newObj, Sem.run_pure, Bool.not_false, if_true]


/-- a block that is marked as bytes of a text: the cell behind its last is frozen -/
theorem HRel.mark {B : Nat} {blk : Blk} {e : Ent} (h : HRel G base W0 m H w) (hb : H.get B = some blk) (he : m.f B = some e) (hro : blk.ro = false) (l : Addr) (hl : l.block = e.b) :
    ∃ w', (markStringish l).run P w = .ok () w' ∧ HRel G base W0 m H w' ∧ Fut m H w m H w' := by
  have hk := h.at' hb he
  have hero : e.ro = false := by rw [hk.ro]; exact hro
  obtain ⟨c, t, fz, hw, hs, hlen, hc, hf⟩ := hk.at_
  obtain ⟨hbase, hth⟩ := hf hero
  have hblt := h.b_lt hb he
  let fz' : Nat × Nat := if fz.1 == fz.2 then (c.size, c.size + 1) else (min fz.1 c.size, max fz.2 (c.size + 1))
  let w' : World := w.freeze ⟨e.b, c.size, none⟩ 1
  have hheap : w'.heap = w.heap.modify e.b fun
      | .cells c0 elem (lo, hi) => .cells c0 elem (if lo == hi then (c.size, c.size + 1) else (min lo c.size, max hi (c.size + 1)))
      | o => o := rfl
  have hself : w'.heap[e.b]? = some (.cells c t fz') := by
    rw [hheap, Array.getElem?_modify, if_pos rfl, hw]; rfl
  have hother : ∀ k, k ≠ e.b → w'.heap[k]? = w.heap[k]? := by
    intro k hk'
    rw [hheap, Array.getElem?_modify, if_neg (fun x => hk' x.symm)]
  have hsize : w'.heap.size = w.heap.size := by rw [hheap, Array.size_modify]
  have hth' : Thaw fz' c.size := by
    show Thaw (if fz.1 == fz.2 then (c.size, c.size + 1) else (min fz.1 c.size, max fz.2 (c.size + 1))) c.size
    split
    · exact ⟨by simp, fun o ho => by simp; omega⟩
    · rename_i hne
      have hne' : fz.1 ≠ fz.2 := by simpa using hne
      have hle : c.size ≤ fz.1 := by
        rcases Nat.lt_or_ge fz.1 c.size with hlt | hge
        · exact absurd ⟨Nat.le_refl _, by have := hth.1; omega⟩ (hth.2 fz.1 hlt)
        · exact hge
      exact ⟨by simp; omega, fun o ho => by simp; omega⟩
  refine ⟨w', ?_, ?_, ?_⟩
  · unfold markStringish
    have hsh : w.shape? e.b = some (t, c.size) := by simp [World.shape?, hw]
    simp only [Sem.run_bind, run_shape, Result.andThen_ok, hl, hsh, run_freeze]
    rfl
  · refine { below := ?_, bs := by rw [hsize]; exact h.bs, dom := h.dom, apart := h.apart, glob := h.glob, live := ?_, maps := ?_, hid := ?_ }
    · refine ⟨h.below.os, h.below.tape, h.below.output, by rw [hsize]; exact h.below.size, fun k hk' => ?_⟩
      rw [hother k (by omega)]; exact h.below.block k hk'
    · intro C b2 hC
      rcases h.live C b2 hC with ⟨e2, he2, hk2⟩ | hg
      case inr => exact .inr hg
      refine .inl ⟨e2, he2, { kn := hk2.kn, sz := hk2.sz, opn := hk2.opn, ro := hk2.ro, at_ := ?_ }⟩
      obtain ⟨c', t', fz2, g0, g1, g2, g3, g4⟩ := hk2.at_
      by_cases hCB : C = B
      · subst hCB
        rw [he] at he2; cases he2
        rw [hb] at hC; cases hC
        exact ⟨c, t, fz', hself, hs, hlen, hc, fun _ => ⟨hbase, hth'⟩⟩
      · have hne : e2.b ≠ e.b := fun x => h.apart B C blk b2 e e2 hb hC he he2 (fun y => hCB y.symm) hero x.symm
        exact ⟨c', t', fz2, by rw [hother _ hne]; exact g0, g1, g2, g3, g4⟩
    · intro C b hg
      obtain ⟨a1, a2, a3, a4, ap, al, blk2, a5, a6⟩ := h.maps C b hg
      exact ⟨a1, a2, a3, a4, ap, by rw [hsize]; exact al, blk2, a5, a6.keep hg (fun k hD => hother k (fun x => h.objne hD hb he x.symm)) (.refl m)⟩
    · intro k c hk2
      obtain ⟨a1, a2, a3, a4⟩ := h.hid k c hk2
      exact ⟨a1, by rw [hsize]; exact a2, a3, a4⟩
  · exact ⟨.refl m, Nat.le_of_eq hsize.symm, Nat.le_refl _, fun k hk' hn => ⟨hother k (fun x => hn (.inl ⟨B, blk, e, hb, he, hero, x.symm⟩)), hn⟩, fun _ _ => ⟨rfl, id⟩, fun _ _ hn => hn⟩

end Go.Det

set_option linter.unusedSimpArgs false
set_option linter.unusedVariables false
namespace Go.Det

variable {P : Program} {G base : Nat} {W0 : World} {m : Mp} {H : AH} {w : World} {fr : Fr} {a : Act} {o : Oper}


/-- a fresh array: what an append that grows gives -/
theorem grow_core {e : TypeId} {i : TypeInfo} {cs cs' olds olds' : List Value} {p : Option Addr} {l c' n : Nat} {z : Array Value} (S : Value → Sem Value) (hzz : z.size = i.size)
    (hgrow : ∃ nc, l + n ≤ nc ∧ (S (.slice p l c')).run P w = .ok (.slice (some ⟨w.heap.size, 0, none⟩) (l + n) nc) { w with drawn := w.drawn + 1, heap := w.heap.push (.cells (olds'.toArray ++ cs'.toArray ++ Builtin.zeroCells z (nc - (l + n))) e (0, 0)) })
    (hc2 : LRel m cs cs') (hc3 : cs.length = n * i.size) (holdr : LRel m olds olds') (holdl : olds.length = l * i.size) (hs1 : 1 ≤ i.size) (H2 : AH) (hr2 : HRel G base W0 m H2 w.drew) (hF2 : Fut m H w m H2 w.drew) :
    ∃ m' v' w', (S (.slice p l c')).run P w = .ok v' w' ∧ HRel G base W0 m' (H2.push ⟨olds ++ cs, i.size, true, false⟩) w' ∧ Fut m H w m' (H2.push ⟨olds ++ cs, i.size, true, false⟩) w' ∧ VRel m' (.slice (some ⟨H2.n, 0, none⟩) (l + n) (l + n)) v' := by
  obtain ⟨nc, hnc, hrun⟩ := hgrow
  obtain ⟨hR, hF⟩ := hr2.pushL (olds ++ cs) (olds'.toArray ++ cs'.toArray ++ Builtin.zeroCells z (nc - (l + n))) e i.size true false (by omega) (Builtin.zeroCells z (nc - (l + n))).toList
    ⟨olds' ++ cs', (holdr.append hc2), by simp⟩
  refine ⟨_, _, _, hrun, hR, hF2.trans hF, ?_⟩
  have hlen : (olds ++ cs).length = (l + n) * i.size := by rw [List.length_append, holdl, hc3, Nat.add_mul]
  have hsize : nc * i.size = (olds'.toArray ++ cs'.toArray ++ Builtin.zeroCells z (nc - (l + n))).size := by
    simp only [Array.size_append, List.size_toArray, zeroCells_len, hzz]
    rw [← holdr.1, ← hc2.1, holdl, hc3, ← Nat.add_mul, ← Nat.add_mul]
    congr 1; omega
  refine push_sl m w.drew _ _ _ _ (l + n) (l + n) nc _ _ (Nat.le_refl _) hnc (fun h => ?_) (fun _ => hsize) (Nat.le_of_eq hsize)
  rcases h with h | h
  · simp at h
  · rw [hlen] at h; omega

/-- what an append gives -/
theorem app_core {e : TypeId} {x x' : Value} {i : TypeInfo} {cs cs' ds' : List Value} {n : Nat} {z : Array Value} (S : Value → Sem Value) (hzz : z.size = i.size)
    (hroomS : ∀ (p : Option Addr) (l c' : Nat) (w' : World), l + n ≤ c' → (∀ ad, p = some ad → (storeCells (ad.add (l * i.size)) cs').run P w = .ok () w') → (p = none → w' = w) → (S (.slice p l c')).run P w = .ok (.slice p (l + n) c') w')
    (hgrowS : ∀ (p : Option Addr) (l c' : Nat) (olds' : List Value), ¬ l + n ≤ c' → 1 ≤ i.bytes → (l + n) * i.bytes ≤ 140737488355328 → (Builtin.firstCells i.size l (.slice p l c')).run P w.drew = .ok olds'.toArray w.drew →
      ∃ nc, l + n ≤ nc ∧ (S (.slice p l c')).run P w = .ok (.slice (some ⟨w.heap.size, 0, none⟩) (l + n) nc) { w with drawn := w.drawn + 1, heap := w.heap.push (.cells (olds'.toArray ++ ds'.toArray ++ Builtin.zeroCells z (nc - (l + n))) e (0, 0)) })
    (hs1 : 1 ≤ i.size) (hr : HRel G base W0 m H w) (hx : VRel m x x') (hc2 : LRel m cs cs') (hd2 : LRel m cs ds') (hc3 : cs.length = n * i.size) (hone : cs.all one = true)
    {v : Value} {H' : AH} (hxa : xappC H i.size i.bytes n cs x = some (v, H')) :
    ∃ m' v' w', (S x').run P w = .ok v' w' ∧ HRel G base W0 m' H' w' ∧ Fut m H w m' H' w' ∧ VRel m' v v' := by
  have hone' := lrel_one hc2 hr hone
  unfold xappC at hxa
  split at hxa
  · -- nil
    obtain rfl := flatD_eq 4 _ _ rfl hx
    cases hn0 : Nat.beq n 0
    · simp only [hn0, cond_false] at hxa
      cases hcond : (Nat.ble (n * i.bytes) 140737488355328 && Nat.ble 1 i.bytes)
      · simp [hcond] at hxa
      · simp only [hcond, cond_true, Option.some.injEq, Prod.mk.injEq] at hxa
        obtain ⟨rfl, rfl⟩ := hxa
        simp only [Bool.and_eq_true, Nat.ble_eq] at hcond
        have hnn : ¬ n = 0 := fun h => by rw [h] at hn0; simp at hn0
        have := grow_core (P := P) (p := none) (l := 0) (c' := 0) (olds := []) (olds' := []) S hzz (hgrowS none 0 0 [] (by omega) hcond.2 (by simpa using hcond.1) (by simp [Builtin.firstCells])) hd2 hc3 .nil (by simp) hs1 H hr.drew (Fut.drew m H w)
        simpa using this
    · simp only [hn0, cond_true, Option.some.injEq, Prod.mk.injEq] at hxa
      obtain ⟨rfl, rfl⟩ := hxa
      obtain rfl : n = 0 := Nat.eq_of_beq_eq_true hn0
      refine ⟨m, .slice none 0 0, w, ?_, hr, .refl m H w, .nils⟩
      have := hroomS none 0 0 w (Nat.le_refl _) (fun ad h => by simp at h) (fun _ => rfl)
      simpa using this
  · rename_i B off l c
    cases hb : H.get B with
    | none => simp [hb] at hxa
    | some blk =>
    simp only [hb] at hxa
    cases hcond : (!(Nat.beq blk.sz i.size) || !(Nat.ble l c) || !(Nat.ble (off + c * i.size) blk.cells.length) || !(Nat.ble 1 i.size))
    case true => simp [hcond] at hxa
    simp only [hcond, cond_false] at hxa
    simp only [Bool.or_eq_false_iff, Bool.not_eq_false', Nat.ble_eq] at hcond
    obtain ⟨⟨⟨g1, g2⟩, g3⟩, g4⟩ := hcond
    have g1 : blk.sz = i.size := Nat.eq_of_beq_eq_true g1
    obtain ⟨en, hen, hk⟩ := hr.live' hb hx.sl_f
    have hesz : en.sz = i.size := by rw [hk.sz, g1]
    obtain ⟨ad, c', rfl, hcc, hexact, hnex, haddr, hc0l⟩ : ∃ ad c', x' = .slice (some ad) l c' ∧ c ≤ c' ∧ (en.exact off c → c' = c) ∧ (¬ en.exact off c → en.base + off + c' * en.sz = en.size) ∧
        (c' ≠ 0 → ad = ⟨en.b, en.base + off, none⟩ ∧ (0 < c → en.base + off + c' * en.sz ≤ en.size)) ∧ (c = 0 → l = 0) := by
      cases hx with
      | sl _ _ _ _ c' e' he h0 h1 h2 h3 h4 h5 =>
        obtain rfl : e' = en := by rw [hen] at he; exact (Option.some.inj he).symm
        exact ⟨_, c', rfl, h2, h3, h4, fun _ => ⟨rfl, fun _ => h5⟩, fun hz => by omega⟩
      | sl0 _ _ c' ad e' he h1 h2 h3 =>
        obtain rfl : e' = en := by rw [hen] at he; exact (Option.some.inj he).symm
        exact ⟨_, c', rfl, Nat.zero_le _, h1, h2, fun hne => ⟨h3 hne, fun h0 => by omega⟩, fun _ => rfl⟩
    cases hn0 : Nat.beq n 0
    case true =>
      simp only [hn0, cond_true, Option.some.injEq, Prod.mk.injEq] at hxa
      obtain ⟨rfl, rfl⟩ := hxa
      obtain rfl : n = 0 := Nat.eq_of_beq_eq_true hn0
      have hcs0 : cs' = [] := by
        have := hc2.1; rw [hc3] at this; simpa using this.symm
      subst hcs0
      refine ⟨m, .slice (some ad) l c', w, ?_, hr, .refl m H w, hx⟩
      have := hroomS (some ad) l c' w (by omega) (fun ad h => by simp [storeCells]) (fun _ => rfl)
      simpa using this
    simp only [hn0, cond_false] at hxa
    have hnn : 0 < n := by
      rcases Nat.eq_zero_or_pos n with h | h
      · rw [h] at hn0; simp at hn0
      · exact h
    cases hin : Nat.ble (l + n) c
    case true =>
      simp only [hin, cond_true] at hxa
      have hin' : l + n ≤ c := by simpa using hin
      cases hro : blk.ro
      case true => simp [hro] at hxa
      simp only [hro, cond_false, Option.some.injEq, Prod.mk.injEq] at hxa
      obtain ⟨rfl, rfl⟩ := hxa
      obtain ⟨rfl, z2⟩ := haddr (by omega)
      have z2 := z2 (by omega)
      have hfit : off + l * i.size + 0 + cs.length ≤ blk.cells.length := by
        rw [hc3]
        have : l * i.size + n * i.size ≤ c * i.size := by rw [← Nat.add_mul]; exact Nat.mul_le_mul_right _ hin'
        omega
      obtain ⟨w', s1, s2, s3, s4⟩ := run_storeCells_rel (P := P) cs' cs 0 (off + l * i.size) B blk en H w hr hb hen hro hc2 hone' hfit
      refine ⟨m, .slice (some ⟨en.b, en.base + off, none⟩) (l + n) c', w', ?_, by simpa [hro] using s2, by simpa [hro] using Fut.of_store (cs := splice blk.cells (off + l * i.size) cs) hb hen (by rw [hk.ro]; exact hro) s3 s4, ?_⟩
      · have := hroomS (some ⟨en.b, en.base + off, none⟩) l c' w' (by omega) (fun ad h => by simp at h; subst h; rw [addr_add, Nat.add_assoc]; exact s1) (fun h => by simp at h)
        exact this
      · exact .sl B off (l + n) c c' en hen (by omega) hin' hcc hexact hnex z2
    simp only [hin, cond_false] at hxa
    have hin' : ¬ l + n ≤ c := by intro h; rw [← Nat.ble_eq, hin] at h; simp at h
    cases hsm : (Nat.ble ((l + n) * i.bytes) 140737488355328 && Nat.ble 1 i.bytes)
    case false => simp only [hsm, Bool.not_false, cond_true] at hxa; cases hxa
    simp only [hsm, Bool.not_true, cond_false] at hxa
    obtain ⟨hsm1, hsm2⟩ := Bool.and_eq_true_iff.1 hsm
    have hsm : (l + n) * i.bytes ≤ 140737488355328 ∧ 1 ≤ i.bytes := ⟨Nat.le_of_ble_eq_true hsm1, Nat.le_of_ble_eq_true hsm2⟩
    -- the old cells, when they are read
    have holdc : off + l * i.size ≤ blk.cells.length := by
      have : l * i.size ≤ c * i.size := Nat.mul_le_mul_right _ g2
      omega
    have holdl : ((blk.cells.drop off).take (l * i.size)).length = l * i.size := by rw [List.length_take, List.length_drop]; omega
    have hold : ∃ olds', (Builtin.firstCells i.size l (.slice (some ad) l c')).run P w.drew = .ok (List.toArray olds') w.drew ∧ LRel m ((blk.cells.drop off).take (l * i.size)) olds' := by
      rcases Nat.eq_zero_or_pos c with h0 | h0
      · obtain rfl := hc0l h0
        exact ⟨[], by simp [Builtin.firstCells, loadCells, loadCellsFrom], by simpa using LRel.nil⟩
      · obtain ⟨rfl, _⟩ := haddr (by omega)
        obtain ⟨o', q1, q2⟩ := run_loadCells_rel (P := P) hr.drew hb hen off (l * i.size) holdc
        exact ⟨o', by simp only [Builtin.firstCells]; exact q1, q2⟩
    obtain ⟨olds', q1, q2⟩ := hold
    cases hex : (!blk.opn || Nat.blt (off + c * i.size) blk.cells.length)
    case true =>
      simp only [hex, cond_true, Option.some.injEq, Prod.mk.injEq] at hxa
      obtain ⟨rfl, rfl⟩ := hxa
      have hce : c' = c := hexact (by
        simp only [Bool.or_eq_true, Bool.not_eq_true'] at hex
        rcases hex with h | h
        · left; rw [hk.opn, h]
        · right; rw [hesz, hk.kn]; exact natlt h)
      subst hce
      exact grow_core (P := P) S hzz (hgrowS _ _ _ _ hin' hsm.2 hsm.1 q1) hd2 hc3 q2 holdl hs1 H hr.drew (Fut.drew m H w)
    simp only [hex, cond_false] at hxa
    cases hro : blk.ro
    case true => simp [hro] at hxa
    simp only [hro, cond_false, Option.some.injEq, Prod.mk.injEq] at hxa
    obtain ⟨rfl, rfl⟩ := hxa
    have hero : en.ro = false := by rw [hk.ro]; exact hro
    by_cases hroom : l + n ≤ c'
    · -- there is room
      have hc0 : c' ≠ 0 := by omega
      obtain ⟨had, _⟩ := haddr hc0
      have hnx : ¬ en.exact off c := by
        intro hex2
        have := hexact hex2
        omega
      have hao := hnex hnx
      subst had
      obtain ⟨cc, tt, fz, k1, k2, k3, k4, k5⟩ := hk.at_
      obtain ⟨hbase, hfz⟩ := k5 hero
      have hfit : en.base + off + l * i.size + 0 + cs'.length ≤ cc.size := by
        rw [← hc2.1, hc3, k2]
        have : l * i.size + n * i.size ≤ c' * i.size := by rw [← Nat.add_mul]; exact Nat.mul_le_mul_right _ hroom
        rw [hesz] at hao
        omega
      obtain ⟨w', c2, r1, r2, r3, r4, r5, r6, r7⟩ := run_storeCells_blk (P := P) (base := base) (W0 := W0) cs' 0 (en.base + off + l * i.size) en.b cc tt fz w k1 hfit hfz hone' hbase hr.below
      have hT := hr.take (w' := w') (c2 := c2) hb hen hero r2 (by rw [r3, k2]) (by rw [r3]; exact hfz) r5 r6 r7 hbase ((blk.cells.drop off).take (l * i.size) ++ cs) (en.base + off) i.size (by omega) (by
          rw [List.length_append, holdl, hc3, ← Nat.add_mul]
          have : (l + n) * i.size ≤ c' * i.size := Nat.mul_le_mul_right _ hroom
          rw [hesz] at hao; omega) (by
        intro j u hj
        rw [List.getElem?_append] at hj
        rw [r4]
        split at hj
        · rename_i hjl
          rw [holdl] at hjl
          rw [if_neg (by omega)]
          rw [Nat.add_assoc]
          rw [List.getElem?_take] at hj
          rw [if_pos hjl, List.getElem?_drop] at hj
          obtain ⟨u', p1, p2⟩ := k4 _ _ hj
          exact ⟨u', p1, p2⟩
        · rename_i hjl
          rw [holdl] at hj hjl
          obtain ⟨u', p1, p2⟩ := hc2.2 _ _ hj
          have hjl2 : j - l * i.size < cs'.length := (List.getElem?_eq_some_iff.1 p1).1
          rw [if_pos (by omega), show en.base + off + j - (en.base + off + l * i.size + 0) = j - l * i.size by omega]
          exact ⟨u', p1, p2⟩)
      refine ⟨_, .slice (some ⟨en.b, en.base + off, none⟩) (l + n) c', w', ?_, hT.1, hT.2, ?_⟩
      · have := hroomS (some ⟨en.b, en.base + off, none⟩) l c' w' hroom (fun ad2 h => by simp at h; subst h; rw [addr_add]; exact r1) (fun h => by simp at h)
        exact this
      · have hlen2 : ((blk.cells.drop off).take (l * i.size) ++ cs).length = (l + n) * i.size := by rw [List.length_append, holdl, hc3, Nat.add_mul]
        have hnx2 : ¬ Ent.exact ⟨en.b, en.base + off, en.size, ((blk.cells.drop off).take (l * i.size) ++ cs).length, i.size, true, false⟩ 0 (l + n) := by
          rintro (h | h)
          · simp at h
          · have h' : 0 + (l + n) * i.size < ((blk.cells.drop off).take (l * i.size) ++ cs).length := h
            rw [hlen2] at h'; omega
        have hgo := VRel.sl (m := m.set H.n ⟨en.b, en.base + off, en.size, ((blk.cells.drop off).take (l * i.size) ++ cs).length, i.size, true, false⟩) H.n 0 (l + n) (l + n) c' ⟨en.b, en.base + off, en.size, ((blk.cells.drop off).take (l * i.size) ++ cs).length, i.size, true, false⟩
          (by simp [Mp.set]) (by omega) (Nat.le_refl _) hroom (fun h => absurd h hnx2) (fun _ => by simpa [hesz] using hao) (by rw [hesz] at hao; exact Nat.le_of_eq hao)
        exact hgo
    · exact grow_core (P := P) S hzz (hgrowS _ _ _ _ hroom hsm.2 hsm.1 q1) hd2 hc3 q2 holdl hs1 (H.kill B) (hr.drew.kill B (by
      cases hgB : m.g B with
      | none => rfl
      | some b => have := (hr.maps B b hgB).1; rw [hen] at this; cases this)) ((Fut.drew m H w).trans (Fut.kill m H w.drew B))
  · simp at hxa


/-- what an append gives -/
theorem app_sound {t e u ty : TypeId} {d : TypeDesc} {x y x' y' : Value} {argTypes : Array TypeId} {i : TypeInfo} {zs : List Value}
    (ht : argTypes[0]? = some t) (hu' : argTypes[1]? = some u) (hu : P.underlying t = some (.slice e)) (hd : P.underlying u = some d) (hd2 : ∀ k, d ≠ .int k)
    (hz : zeroAt P e = some zs) (hi : P.info? e = some i) (hzl : zs.length = i.size) (hs1 : 1 ≤ i.size) (hr : HRel G base W0 m H w) (hx : VRel m x x') (hy : VRel m y y')
    {v : Value} {H' : AH} (hxa : xapp H i.size i.bytes x y = some (v, H')) :
    ∃ m' v' w', (Builtin.append_ argTypes ty #[x', y']).run P w = .ok v' w' ∧ HRel G base W0 m' H' w' ∧ Fut m H w m' H' w' ∧ VRel m' v v' := by
  have hsO : sizeAt P e = some i.size := by simp [sizeAt, hi]
  unfold xapp at hxa
  cases hn : srcLen y with
  | none => simp [hn] at hxa
  | some n =>
  simp only [hn] at hxa
  cases hc : src H i.size n y with
  | none => simp [hc] at hxa
  | some cs =>
  simp only [hc] at hxa
  have hlen := srcLen_run (P := P) hn hy w
  obtain ⟨cs', hc1, hc2, hc3⟩ := run_firstCells (P := P) hr hy hc
  obtain ⟨ds', hd1, hd2', hd3⟩ := run_firstCells (P := P) hr.drew hy hc
  obtain ⟨⟨z, hz1, hz2⟩, hz3⟩ := run_zero' hz w.drew
  have hzsz : z.cells.size = i.size := by rw [← Array.length_toList, hz2, hzl]
  refine app_core (P := P) (e := e) (z := z.cells) (fun s => Builtin.append_ argTypes ty #[s, y']) hzsz ?_ ?_ hs1 hr hx hc2 hd2' hc3 (src_one hc) hxa
  · intro p l c' w' h1 h2 h3
    exact run_app_room (P := P) (w := w) (w' := w') (args := #[.slice p l c', y']) (ty := ty) ht hu' rfl rfl hu hd hd2 hsO hlen hc1 h1 h2 h3
  · intro p l c' olds' h1 h2 h3 h4
    exact run_app_grow (P := P) (w := w) (args := #[.slice p l c', y']) (ty := ty) ht hu' rfl rfl hu hd hd2 hi rfl h2 (srcLen_run hn hy w) hd1 h1 h4 hz1 h3

/-- an append of zeros, up to where it asks for room -/
theorem i64_wrap (n : Nat) (hn : n ≤ 140737488355328) : IntKind.i64.wrap (n : Int) = (n : Int) := by
  show (if (true && decide ((n : Int) % (2 ^ 64 : Int) ≥ (2 ^ 63 : Int))) = true then (n : Int) % (2 ^ 64 : Int) - (2 ^ 64 : Int) else (n : Int) % (2 ^ 64 : Int)) = n
  rw [show (2 : Int) ^ 64 = 18446744073709551616 from rfl, show (2 : Int) ^ 63 = 9223372036854775808 from rfl]
  simp only [Bool.true_and, decide_eq_true_eq]
  split <;> omega

theorem run_appN_room {t e u : TypeId} {sz n l c' : Nat} {kd kv : IntKind} {p : Option Addr} {w' : World} {args : Array Value} {argTypes : Array TypeId} {ty : TypeId} {i : TypeInfo} {z : Value}
    (ht : argTypes[0]? = some t) (hu' : argTypes[1]? = some u) (ha0 : args[0]? = some (.slice p l c')) (ha1 : args[1]? = some (.int kv (n : Int)))
    (hu : P.underlying t = some (.slice e)) (hd : P.underlying u = some (.int kd)) (hi : P.info? e = some i) (hsz : i.size = sz) (hn : n ≤ 140737488355328) (hnb : n * i.bytes ≤ 140737488355328)
    (hz : (zeroValue e).run P w = .ok z w) (hzs : z.cells.size = sz) (hroom : l + n ≤ c') (hst : ∀ ad, p = some ad → (storeCells (ad.add (l * sz)) (Builtin.zeroCells z.cells n).toList).run P w = .ok () w') (hnone : p = none → w' = w) :
    (Builtin.append_ argTypes ty args).run P w = .ok (.slice p (l + n) c') w' := by
  have hw := i64_wrap n hn
  have h0 : ¬ (n : Int) < 0 := by omega
  have h1 : ¬ ((n : Int) * (i.bytes : Int) > 2 ^ 48) := by
    have : ((n * i.bytes : Nat) : Int) ≤ 140737488355328 := by omega
    rw [Int.natCast_mul] at this
    rw [show (2 : Int) ^ 48 = 281474976710656 from rfl]; omega
  have hsO : (sizeOf e).run P w = .ok sz w := by simp [sizeOf, typeInfo, hi, hsz]
  have hai : (asInt (.int kv (n : Int))).run P w = .ok (n : Int) w := by simp [asInt, asIntOf]
  have hti : (typeInfo e).run P w = .ok i w := by simp [typeInfo, hi]
  have happ : (if n * sz = 0 then pure #[] else do pure (Builtin.zeroCells (← zeroValue e).cells n) : Sem (Array Value)).run P w = .ok (Builtin.zeroCells z.cells n) w := by
    split
    · rename_i hz0
      have : Builtin.zeroCells z.cells n = #[] := by
        apply Array.eq_empty_of_size_eq_zero
        rw [zeroCells_len, hzs, hz0]
      simp [this]
    · simp [hz]
  unfold Builtin.append_
  simp only [ht, ha0, ha1, hu', Sem.run_bind, run_underlying hu, Result.andThen_ok, hsO, run_underlying hd, Sem.run_pure, if_true, hai, hw, h0, if_false, hti, h1, Int.toNat_natCast, hroom, Bool.not_true, Bool.false_eq_true, happ]
  cases p with
  | none => simp [hnone rfl]
  | some ad => simp [hst ad rfl]

theorem run_appN_grow {t e u : TypeId} {sz n l c' : Nat} {kd kv : IntKind} {p : Option Addr} {olds : List Value} {args : Array Value} {argTypes : Array TypeId} {ty : TypeId} {i : TypeInfo} {z : Value}
    (ht : argTypes[0]? = some t) (hu' : argTypes[1]? = some u) (ha0 : args[0]? = some (.slice p l c')) (ha1 : args[1]? = some (.int kv (n : Int)))
    (hu : P.underlying t = some (.slice e)) (hd : P.underlying u = some (.int kd)) (hi : P.info? e = some i) (hsz : i.size = sz) (hb1 : 1 ≤ i.bytes) (hn : n ≤ 140737488355328) (hnb : n * i.bytes ≤ 140737488355328)
    (hroom : ¬ l + n ≤ c') (hold : (Builtin.firstCells sz l (.slice p l c')).run P w.drew = .ok olds.toArray w.drew)
    (hz : (zeroValue e).run P w.drew = .ok z w.drew) (hzs : z.cells.size = sz) (hbytes : (l + n) * i.bytes ≤ 140737488355328) :
    ∃ nc, l + n ≤ nc ∧ (Builtin.append_ argTypes ty args).run P w =
      .ok (.slice (some ⟨w.heap.size, 0, none⟩) (l + n) nc) { w with drawn := w.drawn + 1, heap := w.heap.push (.cells (olds.toArray ++ (Builtin.zeroCells z.cells n) ++ Builtin.zeroCells z.cells (nc - (l + n))) e (0, 0)) } := by
  have hw := i64_wrap n hn
  have h0 : ¬ (n : Int) < 0 := by omega
  have h1 : ¬ ((n : Int) * (i.bytes : Int) > 2 ^ 48) := by
    have : ((n * i.bytes : Nat) : Int) ≤ 140737488355328 := by omega
    rw [Int.natCast_mul] at this
    rw [show (2 : Int) ^ 48 = 281474976710656 from rfl]; omega
  have hbig : ¬ (Builtin.nextslicecap (l + n) c' * i.bytes > 2 ^ 48) := by
    have h1 := nextcap_le (l + n) c' (by omega)
    have h2 : Builtin.nextslicecap (l + n) c' * i.bytes ≤ 2 * (l + n) * i.bytes := Nat.mul_le_mul_right _ h1
    rw [Nat.mul_assoc] at h2
    omega
  have hln : l + n ≤ (l + n) * i.bytes := Nat.le_mul_of_pos_right _ hb1
  have hmax : ¬ (((l + n : Nat) : Int) > IntKind.i64.max ∧ (True ∨ i.bytes = 0)) := by
    intro h
    have h3 : IntKind.i64.max = 9223372036854775807 := rfl
    rw [h3] at h; omega
  have hsO : (sizeOf e).run P w = .ok sz w := by simp [sizeOf, typeInfo, hi, hsz]
  have hai : (asInt (.int kv (n : Int))).run P w = .ok (n : Int) w := by simp [asInt, asIntOf]
  have hti : ∀ w, (typeInfo e).run P w = .ok i w := fun w => by simp [typeInfo, hi]
  have happ : (if n * sz = 0 then pure #[] else do pure (Builtin.zeroCells (← zeroValue e).cells n) : Sem (Array Value)).run P w.drew = .ok (Builtin.zeroCells z.cells n) w.drew := by
    split
    · rename_i hz0
      have : Builtin.zeroCells z.cells n = #[] := by
        apply Array.eq_empty_of_size_eq_zero
        rw [zeroCells_len, hzs, hz0]
      simp [this]
    · simp [hz]
  refine ⟨(Question.appendCap (l + n) c' e).cut (w.tape w.drawn (Question.appendCap (l + n) c' e)), by simp [Question.cut], ?_⟩
  unfold Builtin.append_
  simp only [World.drew] at hold hz happ
  simp only [ht, ha0, ha1, hu', Sem.run_bind, run_underlying hu, Result.andThen_ok, hsO, run_underlying hd, Sem.run_pure, if_true, hai, hw, h0, if_false, hti, h1, Int.toNat_natCast, hroom, Bool.not_true, Bool.false_eq_true, hmax, hbig, run_choose, Question.forced, run_askRoom, happ, hold, hz, newRow, run_newObj]

theorem appN_sound {t e u ty : TypeId} {kd kv : IntKind} {n : Nat} {x x' : Value} {argTypes : Array TypeId} {i : TypeInfo} {zs : List Value}
    (ht : argTypes[0]? = some t) (hu' : argTypes[1]? = some u) (hu : P.underlying t = some (.slice e)) (hd : P.underlying u = some (.int kd))
    (hz : zeroAt P e = some zs) (hi : P.info? e = some i) (hzl : zs.length = i.size) (hs1 : 1 ≤ i.size) (hr : HRel G base W0 m H w) (hx : VRel m x x')
    {v : Value} {H' : AH} (hxa : xappN H i.size i.bytes zs x (.int kv (n : Int)) = some (v, H')) :
    ∃ m' v' w', (Builtin.append_ argTypes ty #[x', .int kv (n : Int)]).run P w = .ok v' w' ∧ HRel G base W0 m' H' w' ∧ Fut m H w m' H' w' ∧ VRel m' v v' := by
  have hxa' : (bif Nat.ble (n * i.bytes) 140737488355328 && Nat.ble n 140737488355328 && (rep n zs).all one then xappC H i.size i.bytes n (rep n zs) x else none) = some (v, H') := hxa
  cases hcond : (Nat.ble (n * i.bytes) 140737488355328 && Nat.ble n 140737488355328 && (rep n zs).all one)
  · rw [hcond] at hxa'; simp at hxa'
  rw [hcond, cond_true] at hxa'
  obtain ⟨hc1, hone⟩ := Bool.and_eq_true_iff.1 hcond
  obtain ⟨hc1, hc2⟩ := Bool.and_eq_true_iff.1 hc1
  have hnb := Nat.le_of_ble_eq_true hc1
  have hn := Nat.le_of_ble_eq_true hc2
  obtain ⟨⟨z, hz1, hz2⟩, hz3⟩ := run_zero' hz w
  obtain ⟨⟨y, hy1, hy2⟩, _⟩ := run_zero' hz w.drew
  have hzsz : z.cells.size = i.size := by rw [← Array.length_toList, hz2, hzl]
  have hysz : y.cells.size = i.size := by rw [← Array.length_toList, hy2, hzl]
  have hcz : (Builtin.zeroCells z.cells n).toList = rep n zs := by
    have := range_rep z.cells n i.size (by rw [Array.length_toList]; exact hzsz)
    unfold Builtin.zeroCells
    rw [hzsz] at *
    rw [this, hz2]
  have hcy : (Builtin.zeroCells y.cells n).toList = rep n zs := by
    have := range_rep y.cells n i.size (by rw [Array.length_toList]; exact hysz)
    unfold Builtin.zeroCells
    rw [hysz] at *
    rw [this, hy2]
  have hrel : LRel m (rep n zs) (rep n zs) := flat_lrel m _ (rep_flat n zs hz3)
  refine app_core (P := P) (e := e) (z := y.cells) (cs' := rep n zs) (ds' := rep n zs) (fun s => Builtin.append_ argTypes ty #[s, .int kv (n : Int)]) hysz ?_ ?_ hs1 hr hx hrel hrel (by rw [rep_length, hzl]) hone hxa'
  · intro p l c' w' h1 h2 h3
    exact run_appN_room (P := P) (w := w) (w' := w') (args := #[.slice p l c', .int kv (n : Int)]) (ty := ty) ht hu' rfl rfl hu hd hi rfl hn hnb hz1 hzsz h1 (by rw [hcz]; exact h2) h3
  · intro p l c' olds' h1 h2 h3 h4
    have hcy' : Builtin.zeroCells y.cells n = (rep n zs).toArray := by rw [← hcy]
    rw [← hcy']
    exact run_appN_grow (P := P) (w := w) (args := #[.slice p l c', .int kv (n : Int)]) (ty := ty) ht hu' rfl rfl hu hd hi rfl h2 hn hnb h1 h4 hy1 hysz h3

end Go.Det

set_option linter.unusedSimpArgs false
set_option linter.unusedVariables false
namespace Go.Det

variable {P : Program} {G base : Nat} {W0 : World} {m : Mp} {H : AH} {w : World} {fr : Fr} {a : Act} {o : Oper}

theorem ok_app {c : Call} {t u e : TypeId} {x y : Operand} {d : TypeDesc} {zs : List Value} {i : TypeInfo} (hop : o.op = .call c) (hc : c.callee = .builtin .append) (ht : c.argTypes[0]? = some t) (hu' : c.argTypes[1]? = some u)
    (hargs : c.args.toList = [x, y]) (hu : P.underlying t = some (.slice e)) (hd : P.underlying u = some d) (hd2 : ∀ k, d ≠ .int k) (hz : zeroAt P e = some zs) (hi : P.info? e = some i) (hzl : zs.length = i.size) (hs1 : 1 ≤ i.size)
    (hr : HRel G base W0 m H w) (hf : FrRel m fr a.tmps) (hox : okOpnd G x = true) (hoy : okOpnd G y = true) {p q v : Value} {H' : AH} (hx : ev fr x = some p) (hy : ev fr y = some q)
    (hxa : xapp H i.size i.bytes p q = some (v, H')) : OpOk P G base W0 o a w m H v H' := by
  have hargs' : c.args = #[x, y] := by rw [← Array.toArray_toList (xs := c.args), hargs]
  obtain ⟨m', v', w', h1, h2, h3, h4⟩ := app_sound (P := P) (ty := o.type) ht hu' hu hd hd2 hz hi hzl hs1 hr (ev_sound hr hf hox hx) (ev_sound hr hf hoy hy) hxa
  refine ⟨m', v', w', .inl ?_, h2, h3, h4⟩
  simp [execOp, hop, resolve, hc, hargs', invoke, builtin, h1]

theorem ok_appN {c : Call} {t u e : TypeId} {x y : Operand} {kd : IntKind} {zs : List Value} {i : TypeInfo} (hop : o.op = .call c) (hc : c.callee = .builtin .append) (ht : c.argTypes[0]? = some t) (hu' : c.argTypes[1]? = some u)
    (hargs : c.args.toList = [x, y]) (hu : P.underlying t = some (.slice e)) (hd : P.underlying u = some (.int kd)) (hz : zeroAt P e = some zs) (hi : P.info? e = some i) (hzl : zs.length = i.size) (hs1 : 1 ≤ i.size)
    (hr : HRel G base W0 m H w) (hf : FrRel m fr a.tmps) (hox : okOpnd G x = true) (hoy : okOpnd G y = true) {p q v : Value} {H' : AH} (hx : ev fr x = some p) (hy : ev fr y = some q)
    (hxa : xappN H i.size i.bytes zs p q = some (v, H')) : OpOk P G base W0 o a w m H v H' := by
  have hargs' : c.args = #[x, y] := by rw [← Array.toArray_toList (xs := c.args), hargs]
  have hq : ∃ kv n, q = .int kv (Int.ofNat n) := by
    unfold xappN at hxa
    split at hxa
    · exact ⟨_, _, rfl⟩
    · simp at hxa
  obtain ⟨kv, n, rfl⟩ := hq
  have hy' := flatD_eq 4 _ _ rfl (ev_sound hr hf hoy hy)
  obtain ⟨m', v', w', h1, h2, h3, h4⟩ := appN_sound (P := P) (ty := o.type) ht hu' hu hd hz hi hzl hs1 hr (ev_sound hr hf hox hx) hxa
  refine ⟨m', v', w', .inl ?_, h2, h3, h4⟩
  have h1' : (Builtin.append_ c.argTypes o.type #[a.eval x, .int kv (Int.ofNat n)]).run P w = .ok v' w' := h1
  simp only [execOp, hop, resolve, hc, hargs', Sem.run_bind, Sem.run_pure, Result.andThen_ok, invoke, builtin, List.map_toArray, List.map_cons, List.map_nil, ← hy', h1']

theorem ok_cvs {s d e0 e : TypeId} {x : Operand} (hop : o.op = .convert s d x) (hs : P.underlying s = some (.slice e0)) (hd : P.underlying d = some (.slice e)) (hsd : s = d) (he : P.underlying e = some (.int .u8))
    (hr : HRel G base W0 m H w) (hf : FrRel m fr a.tmps) (ho : okOpnd G x = true) {B off l c : Nat} {blk : Blk} (hx : ev fr x = some (.slice (some ⟨B, off, none⟩) l c)) (hb : H.get B = some blk) (hro : blk.ro = false) (hc : 0 < c) :
    OpOk P G base W0 o a w m H (.slice (some ⟨B, off, none⟩) l c) H := by
  have h := ev_sound hr hf ho hx
  obtain ⟨e1, c', he1, hq⟩ : ∃ e1 c', m.f B = some e1 ∧ a.eval x = .slice (some ⟨e1.b, e1.base + off, none⟩) l c' := by
    generalize hqq : a.eval x = q at h
    cases h with
    | sl _ _ _ _ c' e1 he1 => exact ⟨e1, c', he1, rfl⟩
    | sl0 => omega
  obtain ⟨w', h1, h2, h3⟩ := hr.mark (P := P) hb he1 hro ⟨e1.b, e1.base + off, none⟩ rfl
  rw [hq] at h
  refine ⟨m, _, w', .inl ?_, h2, h3, h⟩
  subst hsd
  obtain rfl : e0 = e := by rw [hs] at hd; cases hd; rfl
  simp [execOp, hop, convert, run_underlying hs, run_underlying hd, run_underlying he, hq, h1]

theorem ok_s2b {s d e : TypeId} {x : Operand} (hop : o.op = .convert s d x) (hs : P.underlying s = some .string) (hd : P.underlying d = some (.slice e)) (he : P.underlying e = some (.int .u8))
    (hr : HRel G base W0 m H w) (hf : FrRel m fr a.tmps) (ho : okOpnd G x = true) {str : ByteArray} (hx : ev fr x = some (.string str)) :
    OpOk P G base W0 o a w m H (.slice (some ⟨H.n, 0, none⟩) str.size str.size) (H.push ⟨strCells str, 1, true, false⟩) := by
  have e1 := flatD_eq 4 _ _ rfl (ev_sound hr hf ho hx)
  have hcap : str.size ≤ grownCap w str.size 0 e := by simp [grownCap, Question.cut]
  have hl : (strCells str).length = str.size := by rw [strCells, List.length_map]; rfl
  have hrow : (bytesRow str (grownCap w str.size 0 e)).toList = strCells str ++ (Array.replicate (grownCap w str.size 0 e - str.size) (Value.int .u8 0)).toList := by
    rw [bytesRow, Array.toList_append, Array.toList_map]; rfl
  have hsz : (bytesRow str (grownCap w str.size 0 e)).size = grownCap w str.size 0 e := by
    rw [← Array.length_toList, hrow, List.length_append, hl, Array.length_toList, Array.size_replicate]; omega
  obtain ⟨hR, hF⟩ := hr.drew.push (strCells str) (bytesRow str (grownCap w str.size 0 e)) e ((bytesRow str (grownCap w str.size 0 e)).size, (bytesRow str (grownCap w str.size 0 e)).size + 1) 1 true false (by omega)
    (by rw [hl, hsz]; exact hcap) (fun i v hi => ⟨v, by
      rw [← Array.getElem?_toList, hrow, List.getElem?_append_left (List.getElem?_eq_some_iff.1 hi).1]; exact hi, flatD_refl m 4 v (strCells_flat str v (List.mem_of_getElem? hi))⟩)
    ⟨by simp, fun o ho => by simp; omega⟩
  refine ⟨_, .slice (some ⟨w.heap.size, 0, none⟩) str.size (grownCap w str.size 0 e), _, .inl ?_, hR, (Fut.drew m H w).trans hF, ?_⟩
  · simp only [execOp, hop, Sem.run_bind, ← e1, run_bytes_of_string w s d e str hs hd he, Result.andThen_ok, Sem.run_pure]
    rfl
  · exact push_sl m w.drew _ _ _ 1 str.size str.size _ true false (Nat.le_refl _) hcap (fun h => by
      rcases h with h | h
      · simp at h
      · rw [hl] at h; omega) (fun _ => by rw [hsz]; omega) (by rw [hsz]; omega)

theorem foldl_bytes : ∀ (ns : List Int) (s : ByteArray), ns.foldl (fun r n => r.push (UInt8.ofNat n.toNat)) s = ⟨(s.data.toList ++ ns.map fun n => UInt8.ofNat n.toNat).toArray⟩
  | [], s => by simp
  | n :: ns, s => by
    simp only [List.foldl_cons, foldl_bytes ns, List.map_cons]
    congr 1
    simp [ByteArray.push]

theorem u8s {cs : List Value} (h : cs.all isU8 = true) : ∃ ns : List Int, cs = ns.map (Value.int .u8) ∧ cs.map u8Of = ns.map fun n => UInt8.ofNat n.toNat := by
  induction cs with
  | nil => exact ⟨[], rfl, rfl⟩
  | cons c cs ih =>
    simp only [List.all_cons, Bool.and_eq_true] at h
    obtain ⟨ns, h1, h2⟩ := ih h.2
    have : ∃ n, c = .int .u8 n := by
      have := h.1
      unfold isU8 at this
      split at this
      · exact ⟨_, rfl⟩
      · simp at this
    obtain ⟨n, rfl⟩ := this
    exact ⟨n :: ns, by simp [h1], by simp [h2, u8Of]⟩

theorem ok_b2s {s d e : TypeId} {x : Operand} (hop : o.op = .convert s d x) (hs : P.underlying s = some (.slice e)) (hd : P.underlying d = some .string) (he : P.underlying e = some (.int .u8))
    (hr : HRel G base W0 m H w) (hf : FrRel m fr a.tmps) (ho : okOpnd G x = true) {v : Value} {r : ByteArray} (hx : ev fr x = some v)
    (hv : (∃ l c, v = .slice none l c ∧ r = .empty) ∨ ∃ ad l c cs, v = .slice (some ad) l c ∧ src H 1 l (.slice (some ad) l c) = some cs ∧ cs.all isU8 = true ∧ r = ⟨(cs.map u8Of).toArray⟩) :
    OpOk P G base W0 o a w m H (.string r) H := by
  have h := ev_sound hr hf ho hx
  refine .same hr (v' := .string r) ?_ (.string _)
  rcases hv with ⟨l, c, rfl, rfl⟩ | ⟨ad, l, c, cs, rfl, hsrc, hall, rfl⟩
  · have : ∃ l' c', a.eval x = .slice none l' c' := by
      generalize a.eval x = y at h
      cases h; exact ⟨_, _, rfl⟩
    obtain ⟨l', c', hq⟩ := this
    simp only [execOp, hop, Sem.run_bind, hq, run_convert_bytes_string w s d e none l' c' hs he hd]
    simp [Conv.bytesToString]
  · obtain ⟨cs', h1, h2, h3⟩ := run_firstCells (P := P) hr h hsrc
    obtain ⟨ns, g1, g2⟩ := u8s hall
    have hcs : cs' = cs := by
      apply List.ext_getElem?
      intro i
      cases hi : cs[i]? with
      | none =>
        have hl : cs.length ≤ i := List.getElem?_eq_none_iff.1 hi
        rw [List.getElem?_eq_none (by rw [← h2.1]; exact hl)]
      | some u =>
        obtain ⟨u', p1, p2⟩ := h2.2 i u hi
        have : flatD 4 u = true := by
          have hm := List.mem_of_getElem? hi
          rw [g1] at hm
          simp only [List.mem_map] at hm
          obtain ⟨n, _, rfl⟩ := hm
          rfl
        rw [p1, flatD_eq 4 _ _ this p2]
    subst hcs
    have : ∃ ad' c', a.eval x = .slice (some ad') l c' := by
      generalize a.eval x = y at h
      cases h <;> exact ⟨_, _, rfl⟩
    obtain ⟨ad', c', hq⟩ := this
    rw [hq] at h1
    simp only [Builtin.firstCells, Nat.mul_one] at h1
    rw [g1] at h1
    have hrun := run_bytesToString (P := P) w ad' l c' ns h1
    simp only [execOp, hop, Sem.run_bind, hq, run_convert_bytes_string w s d e (some ad') l c' hs he hd, hrun, Result.andThen_ok, Sem.run_pure]
    rw [foldl_bytes, g2]
    rfl

theorem ok_copy {c : Call} {t e : TypeId} {sz : Nat} {x y : Operand} (hop : o.op = .call c) (hc : c.callee = .builtin .copy) (ht : c.argTypes[0]? = some t)
    (hargs : c.args.toList = [x, y]) (hu : P.underlying t = some (.slice e)) (hs : sizeAt P e = some sz)
    (hr : HRel G base W0 m H w) (hf : FrRel m fr a.tmps) (hox : okOpnd G x = true) (hoy : okOpnd G y = true) {p q v : Value} {H' : AH} (hx : ev fr x = some p) (hy : ev fr y = some q)
    (hxa : xcopy H sz p q = some (v, H')) : OpOk P G base W0 o a w m H v H' := by
  have hargs' : c.args = #[x, y] := by rw [← Array.toArray_toList (xs := c.args), hargs]
  have hp := ev_sound hr hf hox hx
  have hq := ev_sound hr hf hoy hy
  generalize hp' : a.eval x = p' at hp
  generalize hq' : a.eval y = q' at hq
  -- the run, from its parts
  have run : ∀ (ad : Option Addr) (l c' mlen : Nat) (cs : List Value) (w' : World), p' = .slice ad l c' → (Builtin.lenOf q').run P w = .ok mlen w → (Builtin.firstCells sz (Nat.min mlen l) q').run P w = .ok cs.toArray w →
      (∀ b, ad = some b → (storeCells b cs).run P w = .ok () w') → (ad = none → w' = w) → (execOp a.eval o).run P w = .ok (.value (.int .i64 (Int.ofNat (Nat.min mlen l)))) w' := by
    intro ad l c' mlen cs w' h1 h2 h3 h4 h5
    have : (Builtin.copy_ c.argTypes o.type #[p', q']).run P w = .ok (.int .i64 (Int.ofNat (Nat.min mlen l))) w' := by
      unfold Builtin.copy_
      subst h1
      cases ad with
      | none => simp [ht, run_underlying hu, h2, run_sizeOf' hs, h3, h5 rfl, goInt]
      | some b => simp [ht, run_underlying hu, h2, run_sizeOf' hs, h3, h4 b rfl, goInt]
    simp [execOp, hop, resolve, hc, hargs', invoke, builtin, hp', hq', this]
  unfold xcopy at hxa
  cases hn : srcLen q with
  | none => simp [hn] at hxa
  | some mlen =>
  simp only [hn] at hxa
  have hlen := srcLen_run (P := P) hn hq w
  split at hxa
  · simp only [Option.some.injEq, Prod.mk.injEq] at hxa
    obtain ⟨rfl, rfl⟩ := hxa
    obtain rfl := flatD_eq 4 _ _ rfl hp
    have h0 : ∃ q1, (Builtin.firstCells sz 0 q').run P w = .ok (List.toArray q1) w := by
      cases hq <;> simp [srcLen] at hn
      · exact ⟨[], by simp [Builtin.firstCells]⟩
      · exact ⟨[], by simp [Builtin.firstCells]⟩
      · exact ⟨[], by simp [Builtin.firstCells, loadCells, loadCellsFrom]⟩
      · exact ⟨[], by simp [Builtin.firstCells, loadCells, loadCellsFrom]⟩
      · exact ⟨[], by simp [Builtin.firstCells, loadCells, loadCellsFrom]⟩
    obtain ⟨q1, h0⟩ := h0
    have := run none 0 0 mlen q1 w rfl hlen (by rw [show Nat.min mlen 0 = 0 from Nat.min_zero mlen]; exact h0) (fun b hb => by simp at hb) (fun _ => rfl)
    rw [show Nat.min mlen 0 = 0 from Nat.min_zero mlen] at this
    exact .same hr this (.int _ _)
  · rename_i B off l c
    split at hxa
    · rename_i blk cs hb hcs
      cases hcond : (!blk.ro && Nat.ble (off + l * sz) blk.cells.length)
      · simp [hcond] at hxa
      · simp only [hcond, cond_true, Option.some.injEq, Prod.mk.injEq] at hxa
        obtain ⟨rfl, rfl⟩ := hxa
        simp only [Bool.and_eq_true, Bool.not_eq_true', Nat.ble_eq] at hcond
        obtain ⟨hro, hfit⟩ := hcond
        obtain ⟨en, hen, hk⟩ := hr.live' hb hp.sl_f
        -- what is copied
        have hsrc : ∃ cs', (Builtin.firstCells sz (Nat.min mlen l) q').run P w = .ok (List.toArray cs') w ∧ LRel m cs cs' ∧ cs.length = Nat.min mlen l * sz ∧ ∀ y ∈ cs', y.oneCell' = true := by
          cases q with
          | string s =>
            simp only at hcs
            obtain rfl := flatD_eq 4 _ _ rfl hq
            simp only [srcLen, Option.some.injEq] at hn; subst hn
            obtain ⟨cs', k1, k2, k3⟩ := run_firstCells (P := P) hr (VRel.string (s.extract 0 (Nat.min s.size l))) hcs
            refine ⟨cs', ?_, k2, k3, lrel_one k2 hr ?_⟩
            · simp only [Builtin.firstCells, Sem.run_pure] at k1 ⊢
              rw [← k1]
              congr 3
              have hmin : Nat.min s.size l ≤ s.size := Nat.min_le_left _ _
              have hsz2 : (s.extract 0 (Nat.min s.size l)).size = Nat.min s.size l := by simp [ByteArray.size_extract]
              conv => rhs; rw [show (s.extract 0 (Nat.min s.size l)).extract 0 (Nat.min s.size l) = (s.extract 0 (Nat.min s.size l)).extract 0 (s.extract 0 (Nat.min s.size l)).size by rw [hsz2]]
              rw [ByteArray.extract_zero_size]
            · unfold src at hcs
              cases hcond2 : (Nat.beq sz 1 && Nat.beq (Nat.min s.size l) (s.extract 0 (Nat.min s.size l)).size)
              · simp only [hcond2, cond_false] at hcs; cases hcs
              · simp only [hcond2, cond_true, Option.some.injEq] at hcs
                subst hcs
                exact List.all_eq_true.2 fun z hz => by
                  have := strCells_flat _ z hz
                  simp only [strCells, List.mem_map] at hz
                  obtain ⟨b, _, rfl⟩ := hz
                  rfl
          | slice ad l' c' =>
            simp only at hcs
            obtain ⟨cs', k1, k2, k3⟩ := run_firstCells (P := P) hr hq hcs
            exact ⟨cs', k1, k2, k3, lrel_one k2 hr (src_one hcs)⟩
          | _ => simp [srcLen] at hn
        obtain ⟨cs', k1, k2, k3, k4⟩ := hsrc
        have hmin : Nat.min mlen l * sz ≤ l * sz := Nat.mul_le_mul_right _ (Nat.min_le_right _ _)
        obtain ⟨ad, c', hpv, haddr⟩ : ∃ ad c', p' = .slice (some ad) l c' ∧ (0 < l → ad = ⟨en.b, en.base + off, none⟩) := by
          cases hp with
          | sl _ _ _ _ c' e' he h0 h1 h2 h3 h4 h5 =>
            obtain rfl : e' = en := by rw [hen] at he; exact (Option.some.inj he).symm
            exact ⟨_, c', rfl, fun _ => rfl⟩
          | sl0 _ _ c' ad e' he h1 h2 h3 => exact ⟨_, c', rfl, fun h => by omega⟩
        rcases Nat.eq_zero_or_pos l with hl0 | hl0
        · subst hl0
          have hcs0 : cs = [] := by
            have : cs.length = 0 := by rw [k3, show Nat.min mlen 0 = 0 from Nat.min_zero mlen]; simp
            simpa using this
          subst hcs0
          have hcs0' : cs' = [] := by have := k2.1; simpa using this.symm
          subst hcs0'
          have := run (some ad) 0 c' mlen [] w hpv hlen k1 (fun b hb => by simp [storeCells]) (fun _ => rfl)
          have hgeq : ∀ C, (H.set B { blk with cells := splice blk.cells off [] }).get C = H.get C := fun C => by
            rw [AH.get_set, splice_nil]
            by_cases hC : C = B
            · simp [hC, hb]
            · simp [hC]
          have hF : Fut m H w m (H.set B { blk with cells := splice blk.cells off [] }) w := Fut.of_store hb hen (by rw [hk.ro]; exact hro) (fun _ _ => rfl) rfl
          exact ⟨m, _, w, .inl this, by simpa [hro] using hr.congr (H' := H.set B { blk with cells := splice blk.cells off [] }) rfl hgeq, by simpa [hro] using hF, .int _ _⟩
        · obtain rfl := haddr hl0
          obtain ⟨w', s1, s2, s3, s4⟩ := run_storeCells_rel (P := P) cs' cs 0 off B blk en H w hr hb hen hro k2 k4 (by rw [k3]; simp only [Nat.add_zero]; omega)
          have := run (some ⟨en.b, en.base + off, none⟩) l c' mlen cs' w' hpv hlen k1 (fun b hb => by simp at hb; subst hb; exact s1) (fun h => by simp at h)
          exact ⟨m, _, w', .inl this, by simpa [hro] using s2, by simpa [hro] using Fut.of_store (cs := splice blk.cells off cs) hb hen (by rw [hk.ro]; exact hro) s3 s4, .int _ _⟩
    · simp at hxa
  · simp at hxa

theorem ok_clear {c : Call} {t e : TypeId} {sz : Nat} {zs : List Value} {x : Operand} (hop : o.op = .call c) (hc : c.callee = .builtin .clear) (ht : c.argTypes[0]? = some t)
    (hargs : c.args.toList = [x]) (hu : P.underlying t = some (.slice e)) (hz : zeroAt P e = some zs) (hzl : zs.length = sz)
    (hr : HRel G base W0 m H w) (hf : FrRel m fr a.tmps) (hox : okOpnd G x = true) {p v : Value} {H' : AH} (hx : ev fr x = some p)
    (hxa : xclr H sz zs p = some (v, H')) : OpOk P G base W0 o a w m H v H' := by
  have hargs' : c.args = #[x] := by rw [← Array.toArray_toList (xs := c.args), hargs]
  have hp := ev_sound hr hf hox hx
  generalize hp' : a.eval x = p' at hp
  obtain ⟨⟨z, hz1, hz2⟩, hz3⟩ := run_zero' hz w
  have hzsz : z.cells.size = sz := by rw [← Array.length_toList, hz2, hzl]
  have hcz : ∀ n, (Builtin.zeroCells z.cells n).toList = rep n zs := by
    intro n
    have := range_rep z.cells n sz (by rw [Array.length_toList]; exact hzsz)
    unfold Builtin.zeroCells
    rw [hzsz] at *
    rw [this, hz2]
  have run : ∀ w', (Builtin.clear_ c.argTypes o.type #[p']).run P w = .ok (.tuple #[]) w' → (execOp a.eval o).run P w = .ok (.value (.tuple #[])) w' := by
    intro w' h
    simp [execOp, hop, resolve, hc, hargs', invoke, builtin, hp', h]
  have vt : VRel m (.tuple #[]) (.tuple #[]) := .tuple _ _ rfl fun i hi => by simp at hi
  unfold xclr at hxa
  split at hxa
  · simp only [Option.some.injEq, Prod.mk.injEq] at hxa
    obtain ⟨rfl, rfl⟩ := hxa
    obtain rfl := flatD_eq 4 _ _ rfl hp
    refine .same hr (v' := .tuple #[]) (run w ?_) vt
    unfold Builtin.clear_
    simp [ht, run_underlying hu]
  · rename_i B off l c
    split at hxa
    · rename_i blk hb
      cases hcond : (!blk.ro && Nat.ble (off + l * sz) blk.cells.length && (rep l zs).all one)
      · simp [hcond] at hxa
      · simp only [hcond, cond_true, Option.some.injEq, Prod.mk.injEq] at hxa
        obtain ⟨rfl, rfl⟩ := hxa
        simp only [Bool.and_eq_true, Bool.not_eq_true', Nat.ble_eq] at hcond
        obtain ⟨⟨hro, hfit⟩, hone⟩ := hcond
        obtain ⟨en, hen, hk⟩ := hr.live' hb hp.sl_f
        have hrel : LRel m (rep l zs) (rep l zs) := flat_lrel m _ (rep_flat l zs hz3)
        have hrl : (rep l zs).length = l * sz := by rw [rep_length, hzl]
        obtain ⟨ad, c', hpv, haddr⟩ : ∃ ad c', p' = .slice (some ad) l c' ∧ (0 < l → ad = ⟨en.b, en.base + off, none⟩) := by
          cases hp with
          | sl _ _ _ _ c' e' he h0 h1 h2 h3 h4 h5 =>
            obtain rfl : e' = en := by rw [hen] at he; exact (Option.some.inj he).symm
            exact ⟨_, c', rfl, fun _ => rfl⟩
          | sl0 _ _ c' ad e' he h1 h2 h3 => exact ⟨_, c', rfl, fun h => by omega⟩
        rcases Nat.eq_zero_or_pos l with hl0 | hl0
        · subst hl0
          have hr0 : rep 0 zs = [] := rfl
          have hrun := run w (by unfold Builtin.clear_; subst hpv; simp [ht, run_underlying hu])
          rw [hr0]
          have hgeq : ∀ C, (H.set B { blk with cells := splice blk.cells off [] }).get C = H.get C := fun C => by
            rw [AH.get_set, splice_nil]
            by_cases hC : C = B
            · simp [hC, hb]
            · simp [hC]
          have hF : Fut m H w m (H.set B { blk with cells := splice blk.cells off [] }) w := Fut.of_store hb hen (by rw [hk.ro]; exact hro) (fun _ _ => rfl) rfl
          exact ⟨m, _, w, .inl hrun, by simpa [hro] using hr.congr (H' := H.set B { blk with cells := splice blk.cells off [] }) rfl hgeq, by simpa [hro] using hF, vt⟩
        · obtain rfl := haddr hl0
          obtain ⟨w', s1, s2, s3, s4⟩ := run_storeCells_rel (P := P) (rep l zs) (rep l zs) 0 off B blk en H w hr hb hen hro hrel (lrel_one hrel hr hone) (by rw [hrl]; simp only [Nat.add_zero]; omega)
          have hrun := run w' (by
            unfold Builtin.clear_
            subst hpv
            cases l with
            | zero => omega
            | succ l =>
              simp only [ht, Sem.run_bind, run_underlying hu, Result.andThen_ok, hz1, hcz, Sem.run_pure]
              simp [s1, run_underlying hu, hz1, hcz])
          exact ⟨m, _, w', .inl hrun, by simpa [hro] using s2, by simpa [hro] using Fut.of_store (cs := splice blk.cells off (rep l zs)) hb hen (by rw [hk.ro]; exact hro) s3 s4, vt⟩
    · simp at hxa
  · simp at hxa

end Go.Det

set_option linter.unusedSimpArgs false
set_option linter.unusedVariables false
namespace Go.Det

variable {P : Program} {G base : Nat} {W0 : World} {m : Mp} {H : AH} {w : World} {fr : Fr} {a : Act} {o : Oper}

inductive All2 {α β : Type} (R : α → β → Prop) : List α → List β → Prop where
  | nil : All2 R [] []
  | cons {a : α} {b : β} {as : List α} {bs : List β} : R a b → All2 R as bs → All2 R (a :: as) (b :: bs)

theorem foldl_splice (off : Nat) : ∀ (l : List Value) (k : Nat) (cells : Array Value), off + k + l.length ≤ cells.size →
    ((l.zipIdx k).foldl (fun cs (p : Value × Nat) => cs.setIfInBounds (off + p.2) p.1) cells).toList = splice cells.toList (off + k) l
  | [], k, cells, h => by simp [splice_nil]
  | v :: l, k, cells, h => by
    simp only [List.length_cons] at h
    simp only [List.zipIdx_cons, List.foldl_cons]
    rw [foldl_splice off l (k + 1) _ (by simp; omega)]
    rw [Array.toList_setIfInBounds, show off + (k + 1) = off + k + 1 by omega, splice_cons _ _ _ _ (by simp; omega)]

theorem fill_rel (hr : HRel G base W0 m H w) (hf : FrRel m fr a.tmps) (place : Nat → Option (Nat × Nat)) : ∀ (qs : List (Nat × Operand)) (ps : List (Nat × Nat × Operand)) (cs : List Value) (cs' : Array Value) (r : List Value),
    (∀ q ∈ qs, okOpnd G q.2 = true) → All2 (fun (q : Nat × Operand) (p : Nat × Nat × Operand) => place q.1 = some (p.1, p.2.1) ∧ q.2 = p.2.2) qs ps → LRel m cs cs'.toList → xfill fr ps cs = some r →
    ∃ r', Instr.fill place cs' (qs.map fun q => (q.1, a.eval q.2)) = some r' ∧ LRel m r r'.toList
  | [], _, cs, cs', r, _, .nil, hl, hx => by
    simp [xfill] at hx; subst hx
    exact ⟨cs', by simp [Instr.fill], hl⟩
  | (i, x) :: qs, (off, n, x2) :: ps, cs, cs', r, ho, .cons hh ht, hl, hx => by
    obtain ⟨hp, hxx⟩ := hh
    simp only at hp hxx
    subst hxx
    simp only [xfill] at hx
    cases he : ev fr x with
    | none => simp [he] at hx
    | some v =>
      simp only [he] at hx
      cases hcond : (Nat.beq (vcells v).length n && Nat.ble (off + n) cs.length && (vcells v).all one)
      · simp only [hcond, cond_false] at hx; cases hx
      · simp only [hcond, cond_true] at hx
        simp only [Bool.and_eq_true, Nat.ble_eq] at hcond
        obtain ⟨⟨c1, c2⟩, c3⟩ := hcond
        have c1 : (vcells v).length = n := Nat.eq_of_beq_eq_true c1
        obtain ⟨hv1, hv2⟩ := vcells_rel (ev_sound hr hf (ho (i, x) (by simp)) he)
        have hsz : (a.eval x).cells.size = n := by rw [← Array.length_toList, ← hv1.1, c1]
        have hcs' : cs'.size = cs.length := by rw [← Array.length_toList, ← hl.1]
        have hfo : ((a.eval x).cells.zipIdx.foldl (fun cs (p : Value × Nat) => cs.setIfInBounds (off + p.2) p.1) cs').toList = splice cs'.toList off (a.eval x).cells.toList := by
          rw [← Array.foldl_toList, Array.toList_zipIdx]
          have := foldl_splice off (a.eval x).cells.toList 0 cs' (by rw [Array.length_toList, hsz]; omega)
          simpa using this
        have hl2 : LRel m (splice cs off (vcells v)) ((a.eval x).cells.zipIdx.foldl (fun cs (p : Value × Nat) => cs.setIfInBounds (off + p.2) p.1) cs').toList := by
          rw [hfo]; exact hl.splice hv1 off
        obtain ⟨r', h1, h2⟩ := fill_rel hr hf place qs ps _ _ r (fun q hq => ho q (by simp [hq])) ht hl2 hx
        refine ⟨r', ?_, h2⟩
        simp only [List.map_cons, Instr.fill, hp]
        rw [if_neg (by simp only [hsz, hcs']; simp; omega)]
        exact h1

theorem mapM_places : ∀ (l : List Field) (w : World), (∀ f ∈ l, (sizeAt P f.type).isSome = true) →
    (l.mapM (fun f => do pure (f.offset, ← sizeOf f.type) : Field → Sem (Nat × Nat))).run P w = .ok (l.map fun f => (f.offset, (sizeAt P f.type).getD 0)) w
  | [], w, _ => by simp
  | f :: l, w, h => by
    have hf := h f (by simp)
    obtain ⟨n, hn⟩ := Option.isSome_iff_exists.1 hf
    have ih := mapM_places l w (fun g hg => h g (by simp [hg]))
    simp only [List.mapM_cons, Sem.run_bind, run_sizeOf' hn, Result.andThen_ok, Sem.run_pure, ih, List.map_cons, hn, Option.getD_some]

theorem fieldsOff_rel {fs : Array Field} : ∀ (qs : List (Nat × Operand)) (ps : List (Nat × Nat × Operand)), fieldsOff P fs qs = some ps →
    All2 (fun (q : Nat × Operand) (p : Nat × Nat × Operand) => (fs.map fun f => (f.offset, (sizeAt P f.type).getD 0))[q.1]? = some (p.1, p.2.1) ∧ q.2 = p.2.2) qs ps
  | [], ps, h => by simp [fieldsOff] at h; subst h; exact .nil
  | (i, x) :: qs, ps, h => by
    simp only [fieldsOff] at h
    cases hf : fs[i]? with
    | none => simp [hf] at h
    | some f =>
      simp only [hf] at h
      cases hn : sizeAt P f.type with
      | none => simp [hn] at h
      | some n =>
        cases hr : fieldsOff P fs qs with
        | none => simp [hn, hr] at h
        | some r =>
          simp [hn, hr] at h; subst h
          refine .cons ⟨?_, rfl⟩ (fieldsOff_rel qs r hr)
          simp [hf, hn]

theorem ok_buildS {t : TypeId} {ps : Array (Nat × Operand)} {fs : Array Field} {zs r : List Value} {l : List (Nat × Nat × Operand)} (hop : o.op = .build t ps) (hu : P.underlying t = some (.struct fs)) (hz : zeroAt P t = some zs)
    (hl : fieldsOff P fs ps.toList = some l) (hall : fs.toList.all (fun f => (sizeAt P f.type).isSome) = true) (hr : HRel G base W0 m H w) (hf : FrRel m fr a.tmps) (ho : ∀ q ∈ ps.toList, okOpnd G q.2 = true)
    (hx : xfill fr l zs = some r) : OpOk P G base W0 o a w m H (.agg r.toArray) H := by
  obtain ⟨⟨z, h1, h2⟩, h3⟩ := run_zero' hz w
  obtain ⟨r', k1, k2⟩ := fill_rel (w := w) hr hf (fun i => (fs.map fun f => (f.offset, (sizeAt P f.type).getD 0))[i]?) ps.toList l zs z.cells r ho (fieldsOff_rel _ _ hl) (by rw [h2]; exact flat_lrel m zs h3) hx
  have hm : (fs.mapM (fun f => do pure (f.offset, ← sizeOf f.type) : Field → Sem (Nat × Nat))).run P w = .ok (fs.map fun f => (f.offset, (sizeAt P f.type).getD 0)) w := by
    rw [Array.mapM_eq_mapM_toList, Sem.run_map, mapM_places fs.toList w (fun f hf => List.all_eq_true.1 hall f hf), Result.andThen_ok]
    congr 1
    apply Array.ext'
    simp
  have hps : (ps.map fun (p : Nat × Operand) => (p.1, a.eval p.2)).toList = ps.toList.map fun q => (q.1, a.eval q.2) := by simp
  have := k2.to_agg
  rw [Array.toArray_toList] at this
  refine .same hr (v' := .agg r') ?_ this
  simp only [execOp, hop, Instr.build, Sem.run_bind, h1, Result.andThen_ok, run_underlying hu, hm]
  rw [hps, k1]
  simp

theorem ok_buildA {t e : TypeId} {n sz : Nat} {ps : Array (Nat × Operand)} {zs r : List Value} (hop : o.op = .build t ps) (hu : P.underlying t = some (.array n e)) (hz : zeroAt P t = some zs)
    (hs : sizeAt P e = some sz) (hr : HRel G base W0 m H w) (hf : FrRel m fr a.tmps) (ho : ∀ q ∈ ps.toList, okOpnd G q.2 = true)
    (hx : xfill fr (ps.toList.map fun p => (p.1 * sz, sz, p.2)) zs = some r) : OpOk P G base W0 o a w m H (.agg r.toArray) H := by
  obtain ⟨⟨z, h1, h2⟩, h3⟩ := run_zero' hz w
  have hfa : ∀ qs : List (Nat × Operand), All2 (fun (q : Nat × Operand) (p : Nat × Nat × Operand) => (fun i => some (i * sz, sz)) q.1 = some (p.1, p.2.1) ∧ q.2 = p.2.2) qs (qs.map fun p => (p.1 * sz, sz, p.2)) := by
    intro qs
    induction qs with
    | nil => exact .nil
    | cons q qs ih => exact .cons ⟨rfl, rfl⟩ ih
  obtain ⟨r', k1, k2⟩ := fill_rel (w := w) hr hf (fun i => some (i * sz, sz)) ps.toList _ zs z.cells r ho (hfa _) (by rw [h2]; exact flat_lrel m zs h3) hx
  have hps : (ps.map fun (p : Nat × Operand) => (p.1, a.eval p.2)).toList = ps.toList.map fun q => (q.1, a.eval q.2) := by simp
  have := k2.to_agg
  rw [Array.toArray_toList] at this
  refine .same hr (v' := .agg r') ?_ this
  simp only [execOp, hop, Instr.build, Sem.run_bind, h1, Result.andThen_ok, run_underlying hu, run_sizeOf' hs]
  rw [hps, k1]
  simp

theorem ok_bslice {t e : TypeId} {n sz : Nat} {ps : Array (Nat × Operand)} {zs r : List Value} (hop : o.op = .buildSlice t n ps) (hu : P.underlying t = some (.slice e)) (hz : zeroAt P e = some zs)
    (hs : sizeAt P e = some sz) (hbig : n * sz ≤ 16777216) (hzl : zs.length = sz) (hs1 : 1 ≤ sz) (hr : HRel G base W0 m H w) (hf : FrRel m fr a.tmps) (ho : ∀ q ∈ ps.toList, okOpnd G q.2 = true)
    (hx : xfill fr (ps.toList.map fun p => (p.1 * sz, sz, p.2)) (rep n zs) = some r) (hlen : r.length = n * sz) :
    OpOk P G base W0 o a w m H (.slice (some ⟨H.n, 0, none⟩) n n) (H.push ⟨r, sz, false, false⟩) := by
  obtain ⟨⟨z, h1, h2⟩, h3⟩ := run_zero' hz w
  have hfa : ∀ qs : List (Nat × Operand), All2 (fun (q : Nat × Operand) (p : Nat × Nat × Operand) => (fun i => some (i * sz, sz)) q.1 = some (p.1, p.2.1) ∧ q.2 = p.2.2) qs (qs.map fun p => (p.1 * sz, sz, p.2)) := by
    intro qs
    induction qs with
    | nil => exact .nil
    | cons q qs ih => exact .cons ⟨rfl, rfl⟩ ih
  have hzs : z.cells.toList.length = sz := by rw [h2, hzl]
  let Z : Array Value := if n * sz = 0 then #[] else z.cells
  let C : Array Value := (Array.range (n * sz)).map (fun j => Z[j % Z.size]!)
  have hC : C.toList = rep n zs := by
    rcases Nat.eq_zero_or_pos n with h0 | h0
    · subst h0; simp [C, rep]
    · have : ¬ n * sz = 0 := Nat.ne_of_gt (Nat.mul_pos h0 (by omega))
      have := range_rep z.cells n sz hzs
      rw [h2] at this
      simpa [C, Z, ‹¬ n * sz = 0›] using this
  obtain ⟨r', k1, k2⟩ := fill_rel (w := w) hr hf (fun i => some (i * sz, sz)) ps.toList _ (rep n zs) C r ho (hfa _) (by rw [hC]; exact flat_lrel m _ (rep_flat n zs h3)) hx
  have hps : (ps.map fun (p : Nat × Operand) => (p.1, a.eval p.2)).toList = ps.toList.map fun q => (q.1, a.eval q.2) := by simp
  have hrs : r'.size = n * sz := by rw [← Array.length_toList, ← k2.1, hlen]
  obtain ⟨hR, hF⟩ := hr.pushL r r' e sz false false (by omega) [] ⟨r'.toList, k2, by simp⟩
  refine ⟨_, .slice (some ⟨w.heap.size, 0, none⟩) n n, _, .inl ?_, hR, hF, ?_⟩
  · simp only [execOp, hop, Instr.buildSlice, Sem.run_bind, run_underlying hu, Result.andThen_ok, run_sizeOf' hs]
    rw [if_neg (by omega)]
    rw [hps]
    simp only [Z, C] at k1
    by_cases h0 : n * sz = 0
    · simp only [h0, if_true] at k1 ⊢
      simp only [Sem.run_bind, Sem.run_pure, Result.andThen_ok, k1, newRow, run_newObj]
    · simp only [h0, if_false] at k1 ⊢
      simp only [Sem.run_bind, h1, Sem.run_pure, Result.andThen_ok, k1, newRow, run_newObj]
  · exact push_sl m w _ _ _ _ n n n _ _ (Nat.le_refl _) (Nat.le_refl _) (fun _ => rfl) (fun h => by simp at h) (by rw [hrs]; exact Nat.le_refl _)

theorem ok_slcA {t e : TypeId} {len sz : Nat} {x : Operand} {lo hi mx : Option Operand} (hop : o.op = .slice t x lo hi mx) (hu : P.underlying t = some (.array len e)) (hs : sizeAt P e = some sz)
    (hr : HRel G base W0 m H w) (hf : FrRel m fr a.tmps) (hox : okOpnd G x = true) (hol : ∀ y, lo = some y → okOpnd G y = true) (hoh : ∀ y, hi = some y → okOpnd G y = true)
    (hom : ∀ y, mx = some y → okOpnd G y = true) {v r : Value} {va vb vc : Option Value} (hx : ev fr x = some v) (ha : optEv fr lo = some va) (hb : optEv fr hi = some vb) (hc : optEv fr mx = some vc)
    (hmh : mx.isSome = true → hi.isSome = true) (hxs : xslcA H len sz v va vb vc = some r) : OpOk P G base W0 o a w m H r H := by
  have h := ev_sound hr hf hox hx
  generalize hq : a.eval x = q at h
  unfold xslcA at hxs
  split at hxs
  · rename_i B off
    split at hxs
    · simp at hxs
    · rename_i blk hblk
      split at hxs
      · simp at hxs
      · rename_i mm n3
        split at hxs
        · simp at hxs
        · rename_i hh n2
          split at hxs
          · simp at hxs
          · rename_i ii n1
            cases hcond : (Nat.beq blk.sz sz && Nat.ble ii hh && Nat.ble hh mm && Nat.ble mm len && Nat.ble (off + len * sz) blk.cells.length && (!blk.opn || Nat.blt (off + mm * sz) blk.cells.length))
            · simp only [hcond, cond_false] at hxs; cases hxs
            · simp only [hcond, cond_true, Option.some.injEq] at hxs
              subst hxs
              simp only [Bool.and_eq_true, Nat.ble_eq] at hcond
              obtain ⟨⟨⟨⟨⟨c1, c2⟩, c3⟩, c4⟩, c5⟩, c6⟩ := hcond
              have c1 : blk.sz = sz := Nat.eq_of_beq_eq_true c1
              obtain ⟨en, hen, hk, hqv⟩ := VRel.live_ptr hr hblk h
              have hesz : en.sz = sz := by rw [hk.sz, c1]
              subst hqv
              have hl := optEv_sound hr hf hol ha n1
              have hhh := optEv_sound hr hf hoh hb n2
              have hm := optEv_sound hr hf hom hc n3
              have b1 := bound_opt (or3 hl)
              have b2 := bound_opt (or3 hhh)
              have b3 := bound_opt (or3 hm)
              have hbd := run_sliceBounds (P := P) (cap := len) (len := len) false b1 b2 b3 (by simpa using hmh) c2 c3 c4 w
              obtain ⟨cc, tt, fz, k1, k2, k3, k4, k5⟩ := hk.at_
              have hkn := hk.kn
              refine .same hr (v' := .slice (some (if mm = ii then ⟨en.b, en.base + off, none⟩ else Addr.add ⟨en.b, en.base + off, none⟩ (ii * sz))) (hh - ii) (mm - ii)) ?_ ?_
              · simp only [execOp, hop, Instr.sliceAt, Sem.run_bind, run_underlying hu, Result.andThen_ok, Instr.sureAddr, hq, hbd, run_sizeOf' hs, Sem.run_pure]
              · have hmul : ii * sz + (mm - ii) * sz = mm * sz := by rw [← Nat.add_mul]; congr 1; omega
                have hex : en.exact (off + ii * sz) (mm - ii) := by
                  simp only [Bool.or_eq_true, Bool.not_eq_true'] at c6
                  rcases c6 with h | h
                  · left; rw [hk.opn, h]
                  · right; have := natlt h; rw [hesz, hk.kn]; omega
                rcases Nat.eq_zero_or_pos (mm - ii) with h0 | h0
                · have hhi0 : hh - ii = 0 := by omega
                  rw [h0] at hex
                  rw [h0, hhi0]
                  exact .sl0 B _ 0 _ en hen (fun _ => rfl) (fun hnx => absurd hex hnx) (fun hne => absurd rfl hne)
                · have hne' : ¬ mm = ii := by omega
                  rw [if_neg hne', addr_add]
                  have hgo := VRel.sl (m := m) B (off + ii * sz) (hh - ii) (mm - ii) (mm - ii) en hen h0 (by omega) (by omega) (fun _ => rfl) (fun hnx => absurd hex hnx) ?_
                  · rw [← Nat.add_assoc] at hgo; exact hgo
                  · rw [hesz]
                    have e2 : mm * sz ≤ len * sz := Nat.mul_le_mul_right _ c4
                    omega
  · simp at hxs

end Go.Det

namespace Go.Det
variable {P : Program} {G base : Nat} {W0 : World} {m : Mp} {H : AH} {w : World} {fr : Fr} {a : Act} {o : Oper}

/-! ### maps -/
theorem ba_beq {s t : ByteArray} : (s == t) = true ↔ s = t := by
  obtain ⟨a⟩ := s
  obtain ⟨b⟩ := t
  show (a == b) = true ↔ _
  simp
theorem ba_self (s : ByteArray) : (s == s) = true := ba_beq.2 rfl
def MapL (m : Mp) (cs : List Value) (es : List MapEntry) : Prop :=
  cs.length = 2 * es.length ∧ ∀ (i : Nat) (e : MapEntry), es[i]? = some e → cs[2 * i]? = some e.key ∧ flatD 4 e.key = true ∧ ∃ v, cs[2 * i + 1]? = some v ∧ VRel m v e.val
theorem MapAt.toL {cs : List Value} {es : Array MapEntry} (h : MapAt m cs es) : MapL m cs es.toList := ⟨by simpa using h.1, fun i e he => h.2 i e (by simpa using he)⟩
theorem MapL.cons {cs : List Value} {e : MapEntry} {es : List MapEntry} (h : MapL m cs (e :: es)) : ∃ v cs', cs = e.key :: v :: cs' ∧ VRel m v e.val ∧ MapL m cs' es := by
  obtain ⟨h1, h2⟩ := h
  obtain ⟨k1, k2, v, k3, k4⟩ := h2 0 e rfl
  match cs, h1, k1, k3 with
  | x :: y :: cs', h1, k1, k3 =>
    simp at k1 k3
    subst k1 k3
    refine ⟨y, cs', rfl, k4, by simp at h1; omega, fun i e' he => ?_⟩
    obtain ⟨l1, l2, u, l3, l4⟩ := h2 (i + 1) e' (by simpa using he)
    have e1 : 2 * (i + 1) = 2 * i + 1 + 1 := by omega
    rw [e1] at l1 l3
    simp only [List.getElem?_cons_succ] at l1 l3
    exact ⟨l1, l2, u, l3, l4⟩
  | [x], h1, _, _ => simp at h1; omega
theorem mfind_now (s : ByteArray) : ∀ (es : List MapEntry) (cs : List Value) (i : Nat) (r : Option (Nat × Value)), MapL m cs es → mfind s cs i = some r →
    (r = none ∧ Instr.findNow .string (.string s) es i = some none) ∨ (∃ j v v', r = some (j, v) ∧ Instr.findNow .string (.string s) es i = some (some (j, v')) ∧ VRel m v v' ∧ i ≤ j ∧ ∃ e, es[j - i]? = some e ∧ e.key = .string s)
  | [], cs, i, r, h, hr => by
    have : cs = [] := by have := h.1; simpa using this
    subst this
    simp only [mfind, Option.some.injEq] at hr
    exact .inl ⟨hr.symm, rfl⟩
  | e :: es, cs, i, r, h, hr => by
    obtain ⟨v, cs', rfl, hv, hm⟩ := h.cons
    cases hk1 : e.key with
    | string t =>
      rw [hk1] at hr
      unfold mfind at hr
      have hsn : Instr.sameNow .string (.string s) e.key = some (s == t) := by rw [hk1]; rfl
      by_cases hst : (s == t) = true
      · rw [if_pos hst] at hr
        simp only [Option.some.injEq] at hr
        refine .inr ⟨i, v, e.val, hr.symm, ?_, hv, Nat.le_refl _, e, by simp, ?_⟩
        · simp only [Instr.findNow, hsn, hst]
        · rw [hk1]
          have : s = t := ba_beq.1 hst
          rw [this]
      · rw [if_neg hst] at hr
        have hst' : (s == t) = false := by simpa using hst
        rcases mfind_now s es cs' (i + 1) r hm hr with ⟨h1, h2⟩ | ⟨j, u, u', h1, h2, h3, h4, e', h5, h6⟩
        · exact .inl ⟨h1, by simp only [Instr.findNow, hsn, hst', h2]⟩
        · refine .inr ⟨j, u, u', h1, by simp only [Instr.findNow, hsn, hst', h2], h3, by omega, e', ?_, h6⟩
          have : j - i = j - (i + 1) + 1 := by omega
          rw [this, List.getElem?_cons_succ]; exact h5
    | _ => simp [hk1, mfind] at hr

theorem ObjAt.mapped {base : Nat} {blk : Blk} {w : World} {b : Nat} {s : ByteArray} (h : ObjAt m base blk w b) (hf : mfind s blk.cells 0 ≠ none) : blk.sz = 0 ∧ ∃ es clock, w.heap[b]? = some (.map es clock) ∧ MapAt m blk.cells es := by
  rcases h with h | ⟨_, T, e, p, v, bs, h1, _⟩ | ⟨_, h1⟩
  · exact h
  · exact absurd (by rw [h1]; rfl) hf
  · exact absurd (by rw [h1]; rfl) hf
/-- the map of ours that a value leads to -/
theorem HRel.mapOf (h : HRel G base W0 m H w) {B : Nat} {x : Value} (hx : VRel m (.map (some B)) x) : ∃ b, x = .map (some b) ∧ m.g B = some b := by
  cases hx with
  | mapp _ b hb => exact ⟨b, rfl, hb⟩

def Mp.setg (m : Mp) (B b : Nat) : Mp := ⟨m.f, fun C => if C = B then some b else m.g C, m.h⟩
theorem HRel.pushMap (h : HRel G base W0 m H w) : HRel G base W0 (m.setg H.n w.heap.size) (H.push ⟨[], 0, false, false⟩) { w with heap := w.heap.push (.map #[] 0) } ∧
    Fut m H w (m.setg H.n w.heap.size) (H.push ⟨[], 0, false, false⟩) { w with heap := w.heap.push (.map #[] 0) } := by
  have hg0 : m.g H.n = none := by
    cases hg : m.g H.n with
    | none => rfl
    | some b => have := (h.maps _ _ hg).2.1; omega
  have hext : m.Ext (m.setg H.n w.heap.size) := ⟨fun _ _ h => h, fun C b hC => by
    by_cases hCn : C = H.n
    · subst hCn; rw [hg0] at hC; cases hC
    · simp [Mp.setg, hCn, hC], fun _ _ h => h⟩
  have hheap : ∀ k, k < w.heap.size → (w.heap.push (.map #[] 0))[k]? = w.heap[k]? := fun k hk => by rw [Array.getElem?_push, if_neg (by omega)]
  refine ⟨{ below := h.below.alloc h.bs _, bs := by simpa using Nat.le_succ_of_le h.bs, dom := ?_, apart := ?_, glob := ?_, live := ?_, maps := ?_, hid := ?_ }, ?_⟩
  · intro B blk hb
    rw [AH.get_push] at hb
    by_cases hB : B = H.n
    · exact .inr ⟨w.heap.size, by simp [Mp.setg, hB]⟩
    · simp [hB] at hb
      rcases h.live B blk hb with ⟨e, he, hk⟩ | ⟨b, hg⟩
      · have hl := h.b_lt hb he
        obtain ⟨c', t', fz', hw, h1, h2, h3, h4⟩ := hk.at_
        exact .inl ⟨e, he, { kn := hk.kn, sz := hk.sz, opn := hk.opn, ro := hk.ro, at_ := ⟨c', t', fz', by rw [hheap _ hl]; exact hw, h1, h2, fun i v hi => let ⟨v', a, b⟩ := h3 i v hi; ⟨v', a, b.mono hext⟩, h4⟩ }⟩
      · exact .inr ⟨b, hext.ge _ _ hg⟩
  · intro C b hC
    by_cases hCn : C = H.n
    · subst hCn
      simp [Mp.setg] at hC; subst hC
      refine ⟨h.fresh, by simp, h.bs, fun D hD => ?_, fun D bl e2 hD he2 => ?_, by simp, ⟨[], 0, false, false⟩, by rw [AH.get_push, if_pos rfl], .inl ⟨rfl, #[], 0, by simp, rfl, fun i e he => by simp at he⟩⟩
      · by_cases hDn : D = H.n
        · exact hDn
        · simp [Mp.setg, hDn] at hD
          have := h.objlt (.inl ⟨D, hD⟩)
          omega
      · have hDn := (h.dom _ _ he2).1
        rw [AH.get_push, if_neg (by omega)] at hD
        have := h.b_lt hD he2
        omega
    · simp [Mp.setg, hCn] at hC
      obtain ⟨a1, a2, a3, a4, ap, al, blk2, a5, a6⟩ := h.maps C b hC
      refine ⟨a1, by simp; omega, a3, fun D hD => ?_, fun D bl e2 hD he2 => ?_, by simp; omega, blk2, by rw [AH.get_push, if_neg hCn]; exact a5, a6.keep hC (fun k hD => hheap _ (h.objlt hD)) hext⟩
      · by_cases hDn : D = H.n
        · subst hDn
          simp [Mp.setg] at hD
          omega
        · simp [Mp.setg, hDn] at hD
          exact a4 D hD
      · have hDn := (h.dom _ _ he2).1
        rw [AH.get_push, if_neg (by omega)] at hD
        exact ap D bl e2 hD he2
  · intro k c hk2
    obtain ⟨a1, a2, a3, a4⟩ := h.hid k c hk2
    refine ⟨a1, by simp; omega, fun D bl e2 hD he2 => ?_, fun C hC => ?_⟩
    · have hDn := (h.dom _ _ he2).1
      rw [AH.get_push, if_neg (by omega)] at hD
      exact a3 D bl e2 hD he2
    · by_cases hCn : C = H.n
      · simp [Mp.setg, hCn] at hC; omega
      · simp [Mp.setg, hCn] at hC; exact a4 C hC
  · intro B e he
    have := h.dom B e he
    exact ⟨by simp; omega, this.2⟩
  · intro B B' b1 b2 e e' g1 g2 he he' hne hro
    have hBn := (h.dom _ _ he).1
    have hBn' := (h.dom _ _ he').1
    rw [AH.get_push, if_neg (by omega)] at g1 g2
    exact h.apart B B' b1 b2 e e' g1 g2 he he' hne hro
  · exact ⟨Nat.le_trans h.glob.1 (by simp), h.glob.2⟩
  · have key : ∀ (p : Nat → Ent → Prop) (k : Nat), (∃ B blk e, (H.push ⟨[], 0, false, false⟩).get B = some blk ∧ m.f B = some e ∧ p B e) → ∃ B blk e, H.get B = some blk ∧ m.f B = some e ∧ p B e := by
      rintro p k ⟨B, blk, e, g1, g2, g3⟩
      have hBn := (h.dom _ _ g2).1
      rw [AH.get_push, if_neg (by omega)] at g1
      exact ⟨B, blk, e, g1, g2, g3⟩
    have keyg : ∀ k, k < w.heap.size → OwnK (m.setg H.n w.heap.size) k → OwnK m k := by
      rintro k hk (⟨B, hB⟩ | hx)
      · by_cases hBn : B = H.n
        · simp [Mp.setg, hBn] at hB; omega
        · simp [Mp.setg, hBn] at hB; exact .inl ⟨B, hB⟩
      · exact .inr hx
    refine ⟨hext, by simp, by simp, fun k hk hn => ⟨hheap k hk, fun hx => hn ?_⟩, fun B hB => ⟨rfl, fun x => by rw [AH.get_push, if_neg (by omega)]; exact x⟩, fun k hk hn => fun hx => hn ?_⟩
    · rcases hx with hx | hx
      · exact .inl (key (fun B e => e.ro = false ∧ e.b = k) k hx)
      · exact .inr (keyg k hk hx)
    · rcases hx with hx | hx
      · exact .inl (key (fun B e => e.b = k) k hx)
      · exact .inr (keyg k hk hx)

theorem HRel.setMap (h : HRel G base W0 m H w) {B b : Nat} {blk : Blk} {es : Array MapEntry} {cl : Nat} (hg : m.g B = some b) (hb : H.get B = some blk) (hw : w.heap[b]? = some (.map es cl)) (hz : blk.sz = 0) {cs' : List Value} {es' : Array MapEntry} (cl' : Nat) (hm : MapAt m cs' es') :
    HRel G base W0 m (H.set B { blk with cells := cs' }) { w with heap := w.heap.setIfInBounds b (.map es' cl') } ∧ Fut m H w m (H.set B { blk with cells := cs' }) { w with heap := w.heap.setIfInBounds b (.map es' cl') } := by
  obtain ⟨a1, a2, a3, a4, ap, al, blk2, a5, a6⟩ := h.maps B b hg
  rw [hb] at a5; cases a5
  have hbl : b < w.heap.size := (Array.getElem?_eq_some_iff.1 hw).1
  have hne : ∀ k, k ≠ b → (w.heap.setIfInBounds b (.map es' cl'))[k]? = w.heap[k]? := fun k hk => Array.getElem?_setIfInBounds_ne (fun x => hk x.symm)
  have hself : (w.heap.setIfInBounds b (.map es' cl'))[b]? = some (.map es' cl') := by rw [Array.getElem?_setIfInBounds_self_of_lt hbl]
  have hcell : ∀ C blk e, H.get C = some blk → m.f C = some e → e.b ≠ b := by
    intro C blk e hC he x
    obtain ⟨c0, t0, fz0, hw0, _⟩ := (h.at' hC he).at_
    rw [x, hw] at hw0; cases hw0
  have hget : ∀ C bl, (H.set B { blk with cells := cs' }).get C = some bl → C ≠ B → H.get C = some bl := by
    intro C bl hC hCB
    rw [AH.get_set, if_neg hCB] at hC; exact hC
  have hfB : ∀ C e, m.f C = some e → C ≠ B := fun C e he x => by subst x; rw [a1] at he; cases he
  refine ⟨{ below := ?_, bs := by simpa using h.bs, dom := h.dom, apart := ?_, glob := h.glob, live := ?_, maps := ?_, hid := ?_ }, ?_⟩
  · refine ⟨h.below.os, h.below.tape, h.below.output, by simpa using h.below.size, fun k hk => ?_⟩
    show (w.heap.setIfInBounds b (.map es' cl'))[k]? = _
    rw [hne k (by omega)]; exact h.below.block k hk
  · intro C bl hC
    by_cases hCB : C = B
    · exact .inr ⟨b, by rw [hCB]; exact hg⟩
    · have hC' := hget C bl hC hCB
      rcases h.live C bl hC' with ⟨e, he, hk⟩ | hx
      · obtain ⟨c', t', fz', hw', h1, h2, h3, h4⟩ := hk.at_
        exact .inl ⟨e, he, { kn := hk.kn, sz := hk.sz, opn := hk.opn, ro := hk.ro, at_ := ⟨c', t', fz', by show (w.heap.setIfInBounds b (.map es' cl'))[e.b]? = _; rw [hne _ (hcell C bl e hC' he)]; exact hw', h1, h2, h3, h4⟩ }⟩
      · exact .inr hx
  · intro C d hC
    obtain ⟨b1, b2, b3, b4, bp, bl, blk3, b5, b6⟩ := h.maps C d hC
    have bp' : ∀ D bl e2, (H.set B { blk with cells := cs' }).get D = some bl → m.f D = some e2 → e2.b ≠ d := fun D bl e2 hD he2 => bp D bl e2 (hget D bl hD (hfB D e2 he2)) he2
    by_cases hCB : C = B
    · subst hCB
      rw [hg] at hC; cases hC
      exact ⟨b1, b2, b3, b4, bp', by simpa using bl, { blk with cells := cs' }, by rw [AH.get_set, if_pos rfl], .inl ⟨hz, es', cl', hself, hm⟩⟩
    · refine ⟨b1, b2, b3, b4, bp', by simpa using bl, blk3, by rw [AH.get_set, if_neg hCB]; exact b5, ?_⟩
      have hdb : d ≠ b := fun x => by subst x; exact hCB (a4 C hC)
      show ObjAt m base blk3 { w with heap := w.heap.setIfInBounds b (.map es' cl') } d
      rcases b6 with ⟨z0, es3, cl3, z1, z2⟩ | ⟨z0, T, e0, p, v, bs, z1, z2, z3, z4⟩ | z0
      · exact .inl ⟨z0, es3, cl3, by show (w.heap.setIfInBounds b (.map es' cl'))[d]? = _; rw [hne d hdb]; exact z1, z2⟩
      · refine .inr (.inl ⟨z0, T, e0, p, v, bs, z1, by show (w.heap.setIfInBounds b (.map es' cl'))[d]? = _; rw [hne d hdb]; exact z2, z3, ?_⟩)
        rcases z4 with z4 | ⟨g, cap, cur, k1, k2, k3, k4⟩
        · exact .inl z4
        · exact .inr ⟨g, cap, cur, k1, k2, by show (w.heap.setIfInBounds b (.map es' cl'))[g]? = _; rw [hne g (fun x => by subst x; rw [hw] at k3; cases k3)]; exact k3, k4⟩
      · exact .inr (.inr z0)
  · intro k c hk2
    obtain ⟨z1, z2, z3, z4⟩ := h.hid k c hk2
    exact ⟨z1, by simpa using z2, fun D bl e2 hD he2 => z3 D bl e2 (hget D bl hD (hfB D e2 he2)) he2, z4⟩
  · intro C C' b1 b2 e e' g1 g2 he he' hcc hro
    exact h.apart C C' b1 b2 e e' (hget C b1 g1 (hfB C e he)) (hget C' b2 g2 (hfB C' e' he')) he he' hcc hro
  · refine ⟨.refl m, by simp, Nat.le_refl _, fun k hk hn => ⟨hne k (fun x => hn (.inr (.inl ⟨B, by rw [x]; exact hg⟩))), fun hx => hn ?_⟩, fun C hC => ⟨rfl, fun x => ?_⟩, fun k hk hn => fun hx => hn ?_⟩
    · rcases hx with ⟨C, bl, e, g1, g2, g3⟩ | hx
      · exact .inl ⟨C, bl, e, hget C bl g1 (hfB C e g2), g2, g3⟩
      · exact .inr hx
    · rw [AH.get_set]
      by_cases hCB : C = B
      · subst hCB; rw [hb] at x; cases x
      · rw [if_neg hCB]; exact x
    · rcases hx with ⟨C, bl, e, g1, g2, g3⟩ | hx
      · exact .inl ⟨C, bl, e, hget C bl g1 (hfB C e g2), g2, g3⟩
      · exact .inr hx

theorem strKey_u {t : TypeId} (h : strKey P t = true) : P.underlying t = some .string := by
  unfold strKey at h
  split at h
  · assumption
  · cases h
theorem run_checkKey {kt : TypeId} (h : strKey P kt = true) (b : Bool) (s : ByteArray) (w : World) : (Instr.checkKey b 10000 kt (.string s)).run P w = .ok () w := by
  show (Instr.checkKey b (9999 + 1) kt (.string s)).run P w = .ok () w
  unfold Instr.checkKey
  simp [run_underlying (strKey_u h)]
theorem run_findKey {kt : TypeId} (h : strKey P kt = true) (s : ByteArray) (es : List MapEntry) (r : Option (Nat × Value)) (hf : Instr.findNow .string (.string s) es 0 = some r) (w : World) : (Instr.findKey kt (.string s) es).run P w = .ok r w := by
  unfold Instr.findKey
  simp [run_underlying (strKey_u h), hf]
theorem run_zero1 {t : TypeId} {z : Value} (h : zero1 P t = some z) (w : World) : (zeroValue t).run P w = .ok z w ∧ flatD 4 z = true := by
  unfold zero1 at h
  cases hi : P.info? t with
  | none => simp [hi] at h
  | some i =>
    simp only [hi] at h
    cases hz : i.zero with
    | none => simp [hz] at h
    | some z' =>
      simp only [hz] at h
      cases hf : flatD 4 z'
      · simp [hf] at h
      · simp [hf] at h; subst h
        exact ⟨by simp [zeroValue, typeInfo, hi, hz], hf⟩
theorem run_getObj {r : Nat} {es : Array MapEntry} {cl : Nat} (h : w.heap[r]? = some (.map es cl)) : (getObj r).run P w = .ok (.map es cl) w := by
  simp [getObj, Sem.run, h]
theorem run_setObj {r : Nat} {es : Array MapEntry} {cl : Nat} {ob : Obj} (h : w.heap[r]? = some (.map es cl)) : (setObj r ob).run P w = .ok () { w with heap := w.heap.setIfInBounds r ob } := by
  simp [setObj, Sem.run, h]
theorem lkRes_rel {v v' : Value} (h : VRel m v v') (b c : Bool) : VRel m (lkRes v b c) (if c then .tuple #[v', .bool b] else v') := by
  cases c with
  | false => exact h
  | true =>
    refine .tuple #[v, .bool b] #[v', .bool b] rfl fun i hi => ?_
    match i, hi with
    | 0, _ => exact h
    | 1, _ => exact .bool b

/-! ### a new object -/
theorem HRel.pushObj (h : HRel G base W0 m H w) (blk : Blk) (o : Obj) (ho : ObjAt (m.setg H.n w.heap.size) base blk { w with heap := w.heap.push o } w.heap.size) :
    HRel G base W0 (m.setg H.n w.heap.size) (H.push blk) { w with heap := w.heap.push o } ∧ Fut m H w (m.setg H.n w.heap.size) (H.push blk) { w with heap := w.heap.push o } := by
  have hg0 : m.g H.n = none := by
    cases hg : m.g H.n with
    | none => rfl
    | some b => have := (h.maps _ _ hg).2.1; omega
  have hext : m.Ext (m.setg H.n w.heap.size) := ⟨fun _ _ h => h, fun C b hC => by
    by_cases hCn : C = H.n
    · subst hCn; rw [hg0] at hC; cases hC
    · simp [Mp.setg, hCn, hC], fun _ _ h => h⟩
  have hheap : ∀ k, k < w.heap.size → (w.heap.push o)[k]? = w.heap[k]? := fun k hk => by rw [Array.getElem?_push, if_neg (by omega)]
  refine ⟨{ below := h.below.alloc h.bs _, bs := by simpa using Nat.le_succ_of_le h.bs, dom := ?_, apart := ?_, glob := ?_, live := ?_, maps := ?_, hid := ?_ }, ?_⟩
  · intro B bk hb
    rw [AH.get_push] at hb
    by_cases hB : B = H.n
    · exact .inr ⟨w.heap.size, by simp [Mp.setg, hB]⟩
    · simp [hB] at hb
      rcases h.live B bk hb with ⟨e, he, hk⟩ | ⟨b, hg⟩
      · have hl := h.b_lt hb he
        obtain ⟨c', t', fz', hw, h1, h2, h3, h4⟩ := hk.at_
        exact .inl ⟨e, he, { kn := hk.kn, sz := hk.sz, opn := hk.opn, ro := hk.ro, at_ := ⟨c', t', fz', by rw [hheap _ hl]; exact hw, h1, h2, fun i v hi => let ⟨v', a, b⟩ := h3 i v hi; ⟨v', a, b.mono hext⟩, h4⟩ }⟩
      · exact .inr ⟨b, hext.ge _ _ hg⟩
  · intro C b hC
    by_cases hCn : C = H.n
    · subst hCn
      simp [Mp.setg] at hC; subst hC
      refine ⟨h.fresh, by simp, h.bs, fun D hD => ?_, fun D bl e2 hD he2 => ?_, by simp, blk, by rw [AH.get_push, if_pos rfl], ho⟩
      · by_cases hDn : D = H.n
        · exact hDn
        · simp [Mp.setg, hDn] at hD
          have := h.objlt (.inl ⟨D, hD⟩)
          omega
      · have hDn := (h.dom _ _ he2).1
        rw [AH.get_push, if_neg (by omega)] at hD
        have := h.b_lt hD he2
        omega
    · simp [Mp.setg, hCn] at hC
      obtain ⟨a1, a2, a3, a4, ap, al, blk2, a5, a6⟩ := h.maps C b hC
      refine ⟨a1, by simp; omega, a3, fun D hD => ?_, fun D bl e2 hD he2 => ?_, by simp; omega, blk2, by rw [AH.get_push, if_neg hCn]; exact a5, a6.keep hC (fun k hD => hheap _ (h.objlt hD)) hext⟩
      · by_cases hDn : D = H.n
        · subst hDn
          simp [Mp.setg] at hD
          omega
        · simp [Mp.setg, hDn] at hD
          exact a4 D hD
      · have hDn := (h.dom _ _ he2).1
        rw [AH.get_push, if_neg (by omega)] at hD
        exact ap D bl e2 hD he2
  · intro k c hk2
    obtain ⟨a1, a2, a3, a4⟩ := h.hid k c hk2
    refine ⟨a1, by simp; omega, fun D bl e2 hD he2 => ?_, fun C hC => ?_⟩
    · have hDn := (h.dom _ _ he2).1
      rw [AH.get_push, if_neg (by omega)] at hD
      exact a3 D bl e2 hD he2
    · by_cases hCn : C = H.n
      · simp [Mp.setg, hCn] at hC; omega
      · simp [Mp.setg, hCn] at hC; exact a4 C hC
  · intro B e he
    have := h.dom B e he
    exact ⟨by simp; omega, this.2⟩
  · intro B B' b1 b2 e e' g1 g2 he he' hne hro
    have hBn := (h.dom _ _ he).1
    have hBn' := (h.dom _ _ he').1
    rw [AH.get_push, if_neg (by omega)] at g1 g2
    exact h.apart B B' b1 b2 e e' g1 g2 he he' hne hro
  · exact ⟨Nat.le_trans h.glob.1 (by simp), h.glob.2⟩
  · have key : ∀ (p : Nat → Ent → Prop), (∃ B bk e, (H.push blk).get B = some bk ∧ m.f B = some e ∧ p B e) → ∃ B bk e, H.get B = some bk ∧ m.f B = some e ∧ p B e := by
      rintro p ⟨B, bk, e, g1, g2, g3⟩
      have hBn := (h.dom _ _ g2).1
      rw [AH.get_push, if_neg (by omega)] at g1
      exact ⟨B, bk, e, g1, g2, g3⟩
    have keyg : ∀ k, k < w.heap.size → OwnK (m.setg H.n w.heap.size) k → OwnK m k := by
      rintro k hk (⟨B, hB⟩ | hx)
      · by_cases hBn : B = H.n
        · simp [Mp.setg, hBn] at hB; omega
        · simp [Mp.setg, hBn] at hB; exact .inl ⟨B, hB⟩
      · exact .inr hx
    refine ⟨hext, by simp, by simp, fun k hk hn => ⟨hheap k hk, fun hx => hn ?_⟩, fun B hB => ⟨rfl, fun x => by rw [AH.get_push, if_neg (by omega)]; exact x⟩, fun k hk hn => fun hx => hn ?_⟩
    · rcases hx with hx | hx
      · exact .inl (key (fun B e => e.ro = false ∧ e.b = k) hx)
      · exact .inr (keyg k hk hx)
    · rcases hx with hx | hx
      · exact .inl (key (fun B e => e.b = k) hx)
      · exact .inr (keyg k hk hx)
theorem ok_mkb {t e : TypeId} (hop : o.op = .alloc t) (hz : zeroAt P t = some [.pointer none, .slice none 0 0]) (hr : HRel G base W0 m H w) : OpOk P G base W0 o a w m H (.chan (some H.n)) (H.push ⟨[.int .i64 (t : Int), .int .i64 (e : Int)], 1, false, false⟩) := by
  obtain ⟨⟨z, h1, h2⟩, h3⟩ := run_zero' hz w
  have hc : z.cells = #[.pointer none, .slice none 0 0] := by
    apply Array.ext'
    rw [h2]
  obtain ⟨hR, hF⟩ := hr.pushObj ⟨[.int .i64 (t : Int), .int .i64 (e : Int)], 1, false, false⟩ (.cells #[.pointer none, .slice none 0 0] t (0, 0)) (.inr (.inl ⟨rfl, t, e, .pointer none, .slice none 0 0, [], rfl, by simp, .inl rfl, .inl ⟨rfl, rfl⟩⟩))
  refine ⟨_, .pointer (some ⟨w.heap.size, 0, none⟩), _, .inl ?_, hR, hF, .bld _ _ (by simp [Mp.setg])⟩
  simp [execOp, hop, Instr.alloc, h1, newVar, newRow, hc]
theorem ok_mkm {t : TypeId} (hop : o.op = .makeMap t none) (hr : HRel G base W0 m H w) : OpOk P G base W0 o a w m H (.map (some H.n)) (H.push ⟨[], 0, false, false⟩) := by
  obtain ⟨hR, hF⟩ := hr.pushMap
  refine ⟨_, .map (some w.heap.size), _, .inl ?_, hR, hF, .mapp _ _ (by simp [Mp.setg])⟩
  simp [execOp, hop, Instr.makeMap, newObj, Sem.run]
theorem ok_mlk {t kt e : TypeId} {x k : Operand} {c : Bool} {z : Value} (hop : o.op = .lookup t x k c) (hu : P.underlying t = some (.map kt e)) (hz : zero1 P e = some z) (hs : strKey P kt = true) (hr : HRel G base W0 m H w) (hf : FrRel m fr a.tmps)
    (hox : okOpnd G x = true) (hok : okOpnd G k = true) {p q : Value} (hx : ev fr x = some p) (hk : ev fr k = some q) {v : Value} {H' : AH} (hxa : xmlk H z c p q = some (v, H')) : OpOk P G base W0 o a w m H v H' := by
  have hp := ev_sound hr hf hox hx
  have hq := ev_sound hr hf hok hk
  obtain ⟨hz1, hz2⟩ := run_zero1 hz w
  unfold xmlk at hxa
  split at hxa
  · rename_i s
    simp only [Option.some.injEq, Prod.mk.injEq] at hxa
    obtain ⟨rfl, rfl⟩ := hxa
    have ep := flatD_eq 4 _ _ rfl hp
    have eq := flatD_eq 4 _ _ rfl hq
    refine .same hr (v' := if c then .tuple #[z, .bool false] else z) ?_ (lkRes_rel (flatD_refl m 4 z hz2) false c)
    simp [execOp, hop, Instr.lookup, run_underlying hu, ← ep, ← eq, run_checkKey hs, run_findKey hs s [] none rfl, hz1]
  · rename_i B s
    split at hxa
    · rename_i blk hb
      obtain ⟨b, ep, hg⟩ := hr.mapOf hp
      have eq := flatD_eq 4 _ _ rfl hq
      obtain ⟨a1, a2, a3, a4, ap, al, blk2, a5, a6'⟩ := hr.maps B b hg
      rw [hb] at a5; cases a5
      obtain ⟨a6, es, cl, a7, a8⟩ := a6'.mapped (s := s) (fun h => by rw [h] at hxa; simp at hxa)
      have hob := run_getObj (P := P) a7
      split at hxa
      · rename_i pr hfind
        simp only [Option.some.injEq, Prod.mk.injEq] at hxa
        obtain ⟨rfl, rfl⟩ := hxa
        rcases mfind_now s es.toList blk.cells 0 _ a8.toL hfind with ⟨h1, _⟩ | ⟨j, u, u', h1, h2, h3, _⟩
        · cases h1
        · cases h1
          refine .same hr (v' := if c then .tuple #[u', .bool true] else u') ?_ (lkRes_rel h3 true c)
          simp [execOp, hop, Instr.lookup, run_underlying hu, ep, ← eq, hob, run_checkKey hs, run_findKey hs s _ _ h2]
      · rename_i hfind
        simp only [Option.some.injEq, Prod.mk.injEq] at hxa
        obtain ⟨rfl, rfl⟩ := hxa
        rcases mfind_now s es.toList blk.cells 0 _ a8.toL hfind with ⟨_, h2⟩ | ⟨j, u, u', h1, _⟩
        · refine .same hr (v' := if c then .tuple #[z, .bool false] else z) ?_ (lkRes_rel (flatD_refl m 4 z hz2) false c)
          simp [execOp, hop, Instr.lookup, run_underlying hu, ep, ← eq, hob, run_checkKey hs, run_findKey hs s _ _ h2, hz1]
        · cases h1
      · simp at hxa
    · simp at hxa
  · simp at hxa
theorem ok_mup {t kt e : TypeId} {x k y : Operand} (hop : o.op = .mapUpdate t x k y) (hu : P.underlying t = some (.map kt e)) (hs : strKey P kt = true) (hr : HRel G base W0 m H w) (hf : FrRel m fr a.tmps)
    (hox : okOpnd G x = true) (hok : okOpnd G k = true) (hoy : okOpnd G y = true) {p q u : Value} (hx : ev fr x = some p) (hk : ev fr k = some q) (hy : ev fr y = some u) {v : Value} {H' : AH} (hxa : xmup H p q u = some (v, H')) : OpOk P G base W0 o a w m H v H' := by
  have hp := ev_sound hr hf hox hx
  have hq := ev_sound hr hf hok hk
  have hv := ev_sound hr hf hoy hy
  unfold xmup at hxa
  split at hxa
  · rename_i B s
    split at hxa
    · rename_i blk hb
      obtain ⟨b, ep, hg⟩ := hr.mapOf hp
      have eq := flatD_eq 4 _ _ rfl hq
      obtain ⟨a1, a2, a3, a4, ap, al, blk2, a5, a6'⟩ := hr.maps B b hg
      rw [hb] at a5; cases a5
      obtain ⟨a6, es, cl, a7, a8⟩ := a6'.mapped (s := s) (fun h => by rw [h] at hxa; simp at hxa)
      have hob := run_getObj (P := P) a7
      split at hxa
      · rename_i pr hfind
        simp only [Option.some.injEq, Prod.mk.injEq] at hxa
        obtain ⟨rfl, rfl⟩ := hxa
        rcases mfind_now s es.toList blk.cells 0 _ a8.toL hfind with ⟨h1, _⟩ | ⟨j, u0, u', h1, h2, h3, h4, e0, h5, h6⟩
        · cases h1
        cases h1
        have hj : es[j]? = some e0 := by simpa using h5
        have hkey : (((es[j]?).map (·.key)).getD (.string s)) = .string s := by rw [hj]; exact h6
        have hsame : Instr.sameBits 10000 (.string s) (.string s) = true := by simp [Instr.sameBits, ba_self]
        have hm' : MapAt m (blk.cells.set (2 * j + 1) u) (es.modify j fun e => { e with key := .string s, val := a.eval y }) := by
          refine ⟨by simpa using a8.1, fun i e' he' => ?_⟩
          rw [Array.getElem?_modify] at he'
          by_cases hij : j = i
          · subst hij
            rw [if_pos rfl, hj] at he'
            simp at he'; subst he'
            obtain ⟨c1, c2, c3, c4, c5⟩ := a8.2 j e0 hj
            refine ⟨by rw [List.getElem?_set_ne (by omega), c1, h6], rfl, u, ?_, hv⟩
            have := (List.getElem?_eq_some_iff.1 c4).1
            rw [List.getElem?_set, if_pos rfl, if_pos this]
          · rw [if_neg hij] at he'
            obtain ⟨c1, c2, c3, c4, c5⟩ := a8.2 i e' he'
            exact ⟨by rw [List.getElem?_set_ne (by omega)]; exact c1, c2, c3, by rw [List.getElem?_set_ne (by omega)]; exact c4, c5⟩
        obtain ⟨hR, hF⟩ := hr.setMap hg hb a7 a6 cl hm'
        refine ⟨m, undef, _, .inr ⟨?_, rfl⟩, hR, hF, vrel_undef m⟩
        simp [execOp, hop, Instr.mapUpdate, run_underlying hu, ep, ← eq, hob, run_checkKey hs, run_findKey hs s _ _ h2, hkey, Instr.keyThatStays, hsame, run_setObj (P := P) a7]
      · rename_i hfind
        simp only [Option.some.injEq, Prod.mk.injEq] at hxa
        obtain ⟨rfl, rfl⟩ := hxa
        rcases mfind_now s es.toList blk.cells 0 _ a8.toL hfind with ⟨_, h2⟩ | ⟨j, u0, u', h1, _⟩
        case inr => cases h1
        have hm' : MapAt m (blk.cells ++ [.string s, u]) (es.push { key := .string s, val := a.eval y, born := cl }) := by
          have hl := a8.1
          refine ⟨by simp; omega, fun i e' he' => ?_⟩
          rw [Array.getElem?_push] at he'
          by_cases hi : i = es.size
          · subst hi
            rw [if_pos rfl] at he'
            simp at he'; subst he'
            refine ⟨by rw [List.getElem?_append_right (by omega), hl]; simp, rfl, u, by rw [List.getElem?_append_right (by omega), hl, show 2 * es.size + 1 - 2 * es.size = 1 by omega]; rfl, hv⟩
          · rw [if_neg hi] at he'
            obtain ⟨c1, c2, c3, c4, c5⟩ := a8.2 i e' he'
            have g1 := (List.getElem?_eq_some_iff.1 c1).1
            have g2 := (List.getElem?_eq_some_iff.1 c4).1
            exact ⟨by rw [List.getElem?_append_left g1]; exact c1, c2, c3, by rw [List.getElem?_append_left g2]; exact c4, c5⟩
        obtain ⟨hR, hF⟩ := hr.setMap hg hb a7 a6 (cl + 1) hm'
        refine ⟨m, undef, _, .inr ⟨?_, rfl⟩, hR, hF, vrel_undef m⟩
        simp [execOp, hop, Instr.mapUpdate, run_underlying hu, ep, ← eq, hob, run_checkKey hs, run_findKey hs s _ _ h2, run_setObj (P := P) a7]
      · simp at hxa
    · simp at hxa
  · simp at hxa
end Go.Det
