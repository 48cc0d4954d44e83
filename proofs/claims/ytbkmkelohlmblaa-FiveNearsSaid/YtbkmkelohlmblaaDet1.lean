/- A part of a run of a program on a heap of its own, and that the machine does what that run says: no condition but those that each theorem names. -/
import Derived.Calls
import Derived.Orders
import Derived.LoopN
import Derived.Below
import Derived.Laws.World
namespace Go.Det

/-! ### maps by number -/
inductive Tr (α : Type) where
  | leaf
  | node (v : Option α) (l r : Tr α)

namespace Tr
variable {α : Type}
def get : Tr α → Nat → Option α
  | .leaf, _ => none
  | .node v l r, i => bif Nat.beq i 0 then v else bif Nat.beq (i % 2) 1 then l.get (i / 2) else r.get (i / 2 - 1)

def setF (v : Option α) : Nat → Tr α → Nat → Tr α
  | 0, t, _ => t
  | f + 1, .leaf, i =>
    bif Nat.beq i 0 then .node v .leaf .leaf
    else bif Nat.beq (i % 2) 1 then .node none (setF v f .leaf (i / 2)) .leaf
    else .node none .leaf (setF v f .leaf (i / 2 - 1))
  | f + 1, .node u l r, i =>
    bif Nat.beq i 0 then .node v l r
    else bif Nat.beq (i % 2) 1 then .node u (setF v f l (i / 2)) r
    else .node u l (setF v f r (i / 2 - 1))

def set (t : Tr α) (i : Nat) (v : Option α) : Tr α := setF v (i + 1) t i

theorem beq_eq {a b : Nat} : Nat.beq a b = decide (a = b) := by
  by_cases h : a = b
  · subst h; simp
  · rw [decide_eq_false h]; exact Bool.eq_false_iff.2 fun h' => h (Nat.eq_of_beq_eq_true h')

theorem get_leaf (i : Nat) : (Tr.leaf : Tr α).get i = none := rfl

theorem get_node (v : Option α) (l r : Tr α) (i : Nat) : (Tr.node v l r).get i = if i = 0 then v else if i % 2 = 1 then l.get (i / 2) else r.get (i / 2 - 1) := by
  simp only [get, beq_eq]
  by_cases h : i = 0
  · simp [h]
  · by_cases h2 : i % 2 = 1 <;> simp [h, h2]

theorem get_setF (v : Option α) : ∀ (f : Nat) (t : Tr α) (i j : Nat), i < f → (setF v f t i).get j = if j = i then v else t.get j := by
  intro f
  induction f with
  | zero => intro t i j h; omega
  | succ f ih =>
    intro t i j h
    cases t with
    | leaf =>
      simp only [setF, beq_eq]
      by_cases h0 : i = 0
      · subst h0
        simp only [decide_true, cond_true, get_node, get_leaf]
        by_cases hj : j = 0 <;> simp [hj]
      · simp only [h0, decide_false, cond_false]
        by_cases h1 : i % 2 = 1
        · simp only [h1, decide_true, cond_true, get_node, get_leaf, ih _ _ _ (show i / 2 < f by omega)]
          by_cases hj : j = 0
          · have : ¬ j = i := by omega
            simp [hj]; intro h'; omega
          · by_cases hj1 : j % 2 = 1
            · simp only [hj, hj1, if_true, if_false]
              by_cases e : j = i
              · simp [e]
              · have : ¬ j / 2 = i / 2 := by omega
                simp [e, this]
            · have : ¬ j = i := by intro e; subst e; exact hj1 h1
              simp [hj, hj1, this]
        · simp only [h1, decide_false, cond_false, get_node, get_leaf, ih _ _ _ (show i / 2 - 1 < f by omega)]
          by_cases hj : j = 0
          · simp [hj]; intro h'; omega
          · by_cases hj1 : j % 2 = 1
            · have : ¬ j = i := by intro e; subst e; exact h1 hj1
              simp [hj, hj1, this]
            · simp only [hj, hj1, if_false]
              by_cases e : j = i
              · simp [e]
              · have : ¬ j / 2 - 1 = i / 2 - 1 := by omega
                simp [e, this]
    | node u l r =>
      simp only [setF, beq_eq]
      by_cases h0 : i = 0
      · subst h0
        simp only [decide_true, cond_true, get_node]
        by_cases hj : j = 0 <;> simp [hj]
      · simp only [h0, decide_false, cond_false]
        by_cases h1 : i % 2 = 1
        · simp only [h1, decide_true, cond_true, get_node, ih _ _ _ (show i / 2 < f by omega)]
          by_cases hj : j = 0
          · simp [hj]; intro h'; omega
          · by_cases hj1 : j % 2 = 1
            · simp only [hj, hj1, if_true, if_false]
              by_cases e : j = i
              · simp [e]
              · have : ¬ j / 2 = i / 2 := by omega
                simp [e, this]
            · have : ¬ j = i := by intro e; subst e; exact hj1 h1
              simp [hj, hj1, this]
        · simp only [h1, decide_false, cond_false, get_node, ih _ _ _ (show i / 2 - 1 < f by omega)]
          by_cases hj : j = 0
          · simp [hj]; intro h'; omega
          · by_cases hj1 : j % 2 = 1
            · have : ¬ j = i := by intro e; subst e; exact h1 hj1
              simp [hj, hj1, this]
            · simp only [hj, hj1, if_false]
              by_cases e : j = i
              · simp [e]
              · have : ¬ j / 2 - 1 = i / 2 - 1 := by omega
                simp [e, this]

theorem get_set (t : Tr α) (i j : Nat) (v : Option α) : (t.set i v).get j = if j = i then v else t.get j := get_setF v _ t i j (by omega)
end Tr

/-! ### frames: the slots that are known -/
abbrev Fr := List (Nat × Value)
namespace Fr
def get : Fr → Nat → Option Value
  | [], _ => none
  | p :: r, i => bif Nat.beq p.1 i then some p.2 else get r i
def put : Fr → Nat → Value → Fr
  | [], d, v => [(d, v)]
  | p :: r, d, v => bif Nat.beq p.1 d then (d, v) :: r else bif Nat.blt d p.1 then (d, v) :: p :: r else p :: put r d v
def has : List Nat → Nat → Bool
  | [], _ => false
  | k :: ks, i => bif Nat.beq k i then true else has ks i
def keep : Fr → List Nat → Fr
  | [], _ => []
  | p :: r, ks => bif has ks p.1 then p :: keep r ks else keep r ks
def put? (fr : Fr) : Option Nat → Value → Fr
  | none, _ => fr
  | some d, v => fr.put d v

theorem get_put (fr : Fr) (d i : Nat) (v : Value) : (fr.put d v).get i = if i = d then some v else fr.get i := by
  induction fr with
  | nil =>
    simp only [put, get, Tr.beq_eq]
    by_cases h : i = d
    · simp [h]
    · have : ¬ d = i := fun e => h e.symm
      simp [h, this]
  | cons p r ih =>
    simp only [put, Tr.beq_eq]
    by_cases h1 : p.1 = d
    · simp only [h1, decide_true, cond_true, get, Tr.beq_eq]
      by_cases h : i = d
      · simp [h]
      · have : ¬ d = i := fun e => h e.symm
        simp [h, this]
    · simp only [h1, decide_false, cond_false]
      cases hb : Nat.blt d p.1
      · simp only [cond_false, get, Tr.beq_eq, ih]
        by_cases h : i = d
        · have : ¬ p.1 = i := by rw [h]; exact h1
          simp [h, h1]
        · simp [h]
      · simp only [cond_true, get, Tr.beq_eq]
        by_cases h : i = d
        · simp [h]
        · have : ¬ d = i := fun e => h e.symm
          simp [h, this]

theorem get_keep (fr : Fr) (ks : List Nat) (i : Nat) (v : Value) (h : (fr.keep ks).get i = some v) : fr.get i = some v := by
  induction fr with
  | nil => simp [keep, get] at h
  | cons p r ih =>
    simp only [keep] at h
    simp only [get, Tr.beq_eq] at *
    cases hb : has ks p.1
    · simp only [hb, cond_false] at h
      by_cases hp : p.1 = i
      · exfalso
        -- the key is not kept: no entry with it is left
        have key : ∀ (r : Fr), (r.keep ks).get i = none := by
          intro r
          induction r with
          | nil => rfl
          | cons q s ihs =>
            simp only [keep]
            cases hq : has ks q.1
            · simpa using ihs
            · simp only [cond_true, get, Tr.beq_eq]
              have : ¬ q.1 = i := by intro e; rw [e, ← hp, hb] at hq; exact absurd hq (by simp)
              simpa [this] using ihs
        rw [key] at h; simp at h
      · simp [hp, ih h]
    · simp only [hb, cond_true, get, Tr.beq_eq] at h
      by_cases hp : p.1 = i
      · simpa [hp] using h
      · simp only [hp, decide_false, cond_false] at h ⊢
        exact ih h

theorem get_put? (fr : Fr) (d : Option Nat) (i : Nat) (v : Value) : (fr.put? d v).get i = if d = some i then some v else fr.get i := by
  cases d with
  | none => simp [put?]
  | some d =>
    simp only [put?, get_put]
    by_cases h : i = d
    · simp [h]
    · have : ¬ d = i := fun e => h e.symm
      simp [h, this]
end Fr

/-! ### the heap -/
structure Blk where
  cells : List Value
  sz : Nat
  opn : Bool
  ro : Bool

structure AH where
  n : Nat
  t : Tr Blk
namespace AH
def get (H : AH) (b : Nat) : Option Blk := H.t.get b
def set (H : AH) (b : Nat) (x : Blk) : AH := ⟨H.n, H.t.set b (some x)⟩
def kill (H : AH) (b : Nat) : AH := ⟨H.n, H.t.set b none⟩
def push (H : AH) (x : Blk) : AH := ⟨H.n + 1, H.t.set H.n (some x)⟩
@[simp] theorem set_n (H : AH) (b : Nat) (x : Blk) : (H.set b x).n = H.n := rfl
@[simp] theorem kill_n (H : AH) (b : Nat) : (H.kill b).n = H.n := rfl
@[simp] theorem push_n (H : AH) (x : Blk) : (H.push x).n = H.n + 1 := rfl
theorem get_set (H : AH) (b c : Nat) (x : Blk) : (H.set b x).get c = if c = b then some x else H.get c := Tr.get_set _ _ _ _
theorem get_kill (H : AH) (b c : Nat) : (H.kill b).get c = if c = b then none else H.get c := Tr.get_set _ _ _ _
theorem get_push (H : AH) (c : Nat) (x : Blk) : (H.push x).get c = if c = H.n then some x else H.get c := Tr.get_set _ _ _ _
end AH

/-! ### values beside values -/
/-- Where a block of ours lies in the world. -/
structure Ent where
  b : Nat
  base : Nat
  size : Nat
  kn : Nat
  sz : Nat
  opn : Bool
  ro : Bool

structure Mp where
  f : Nat → Option Ent

def Ent.exact (e : Ent) (o c : Nat) : Prop := e.opn = false ∨ o + c * e.sz < e.kn

inductive VRel (m : Mp) : Value → Value → Prop where
  | bool (b : Bool) : VRel m (.bool b) (.bool b)
  | int (k : IntKind) (n : Int) : VRel m (.int k n) (.int k n)
  | float (k : FloatKind) (n : Nat) : VRel m (.float k n) (.float k n)
  | complex (k : FloatKind) (x y : Nat) : VRel m (.complex k x y) (.complex k x y)
  | string (s : ByteArray) : VRel m (.string s) (.string s)
  | nilp : VRel m (.pointer none) (.pointer none)
  | ptr (B o : Nat) (e : Ent) : m.f B = some e → VRel m (.pointer (some ⟨B, o, none⟩)) (.pointer (some ⟨e.b, e.base + o, none⟩))
  | nils : VRel m (.slice none 0 0) (.slice none 0 0)
  | sl (B o l c c' : Nat) (e : Ent) : m.f B = some e → 0 < c → l ≤ c → c ≤ c' → (e.exact o c → c' = c) → (¬ e.exact o c → e.base + o + c' * e.sz = e.size) → e.base + o + c' * e.sz ≤ e.size →
      VRel m (.slice (some ⟨B, o, none⟩) l c) (.slice (some ⟨e.b, e.base + o, none⟩) l c')
  | sl0 (B o c' : Nat) (a : Addr) (e : Ent) : m.f B = some e → (e.exact o 0 → c' = 0) → (¬ e.exact o 0 → e.base + o + c' * e.sz = e.size) → (c' ≠ 0 → a = ⟨e.b, e.base + o, none⟩) →
      VRel m (.slice (some ⟨B, o, none⟩) 0 0) (.slice (some a) 0 c')
  | slx (B o x l c : Nat) (e : Ent) : m.f B = some e → 0 < c → VRel m (.slice (some ⟨B, o, some x⟩) l c) (.slice (some ⟨e.b, e.base + o, none⟩) l c)
  | mapn : VRel m (.map none) (.map none)
  | chann : VRel m (.chan none) (.chan none)
  | func (fn : Fn) (xs ys xs' ys' : Array Value) : xs.size = xs'.size → (∀ i, i < xs.size → VRel m (xs.getD i undef) (xs'.getD i undef)) → ys.size = ys'.size →
      (∀ i, i < ys.size → VRel m (ys.getD i undef) (ys'.getD i undef)) → VRel m (.func fn xs ys) (.func fn xs' ys')
  | nilFunc : VRel m .nilFunc .nilFunc
  | iface (t : TypeId) (v v' : Value) : VRel m v v' → VRel m (.iface t v) (.iface t v')
  | nilIface : VRel m .nilIface .nilIface
  | agg (xs xs' : Array Value) : xs.size = xs'.size → (∀ i, i < xs.size → VRel m (xs.getD i undef) (xs'.getD i undef)) → VRel m (.agg xs) (.agg xs')
  | tuple (xs xs' : Array Value) : xs.size = xs'.size → (∀ i, i < xs.size → VRel m (xs.getD i undef) (xs'.getD i undef)) → VRel m (.tuple xs) (.tuple xs')

/-- Later maps: blocks stay where they are. -/
def Mp.Ext (m m' : Mp) : Prop := ∀ B e, m.f B = some e → m'.f B = some e

theorem Mp.Ext.refl (m : Mp) : m.Ext m := fun _ _ h => h
theorem Mp.Ext.trans {a b c : Mp} (h : a.Ext b) (k : b.Ext c) : a.Ext c := fun B e x => k B e (h B e x)

theorem VRel.mono {m m' : Mp} (hx : m.Ext m') {v v' : Value} (h : VRel m v v') : VRel m' v v' := by
  induction h with
  | bool b => exact .bool b
  | int k n => exact .int k n
  | float k n => exact .float k n
  | complex k x y => exact .complex k x y
  | string s => exact .string s
  | nilp => exact .nilp
  | ptr B o e he => exact .ptr B o e (hx B e he)
  | nils => exact .nils
  | sl B o l c c' e he h0 h1 h2 h3 h4 h5 => exact .sl B o l c c' e (hx B e he) h0 h1 h2 h3 h4 h5
  | sl0 B o c' a e he h1 h2 h3 => exact .sl0 B o c' a e (hx B e he) h1 h2 h3
  | slx B o x l c e he h0 => exact .slx B o x l c e (hx B e he) h0
  | mapn => exact .mapn
  | chann => exact .chann
  | func fn xs ys xs' ys' h1 _ h3 _ ih1 ih2 => exact .func fn _ _ _ _ h1 ih1 h3 ih2
  | nilFunc => exact .nilFunc
  | iface t v v' _ ih => exact .iface t _ _ ih
  | nilIface => exact .nilIface
  | agg xs xs' h1 _ ih => exact .agg _ _ h1 ih
  | tuple xs xs' h1 _ ih => exact .tuple _ _ h1 ih

/-! ### values without addresses -/
def flatD : Nat → Value → Bool
  | 0, _ => false
  | d + 1, v => match v with
    | .bool _ | .int _ _ | .float _ _ | .complex _ _ _ | .string _ | .pointer none | .slice none 0 0 | .map none | .chan none | .nilFunc | .nilIface => true
    | .iface _ v => flatD d v
    | .agg xs | .tuple xs => xs.toList.all (flatD d)
    | .func _ xs ys => xs.toList.all (flatD d) && ys.toList.all (flatD d)
    | _ => false

theorem getD_mem {xs : Array Value} {i : Nat} (h : i < xs.size) : xs.getD i undef ∈ xs.toList := by
  simp [Array.getD, h]

theorem flatD_refl (m : Mp) : ∀ (d : Nat) (v : Value), flatD d v = true → VRel m v v := by
  intro d
  induction d with
  | zero => intro v h; simp [flatD] at h
  | succ d ih =>
    intro v h
    unfold flatD at h
    split at h
    case h_1 => exact .bool _
    case h_2 => exact .int _ _
    case h_3 => exact .float _ _
    case h_4 => exact .complex _ _ _
    case h_5 => exact .string _
    case h_6 => exact .nilp
    case h_7 => exact .nils
    case h_8 => exact .mapn
    case h_9 => exact .chann
    case h_10 => exact .nilFunc
    case h_11 => exact .nilIface
    case h_12 => exact .iface _ _ _ (ih _ h)
    case h_13 => exact .agg _ _ rfl fun i hi => ih _ (List.all_eq_true.1 h _ (getD_mem hi))
    case h_14 => exact .tuple _ _ rfl fun i hi => ih _ (List.all_eq_true.1 h _ (getD_mem hi))
    case h_15 =>
      simp only [Bool.and_eq_true] at h
      exact .func _ _ _ _ _ rfl (fun i hi => ih _ (List.all_eq_true.1 h.1 _ (getD_mem hi))) rfl (fun i hi => ih _ (List.all_eq_true.1 h.2 _ (getD_mem hi)))
    case h_16 => simp at h

theorem arr_ext {xs ys : Array Value} (hs : xs.size = ys.size) (h : ∀ i, i < xs.size → xs.getD i undef = ys.getD i undef) : xs = ys := by
  apply Array.ext hs
  intro i h1 h2
  have := h i h1
  simpa [Array.getD, h1, h2] using this

theorem flatD_eq {m : Mp} : ∀ (d : Nat) (v v' : Value), flatD d v = true → VRel m v v' → v = v' := by
  intro d
  induction d with
  | zero => intro v v' h; simp [flatD] at h
  | succ d ih =>
    intro v v' h hr
    cases hr with
    | ptr => simp [flatD] at h
    | sl => simp [flatD] at h
    | sl0 => simp [flatD] at h
    | slx => simp [flatD] at h
    | iface t v v' hv => rw [ih _ _ (by simpa [flatD] using h) hv]
    | agg xs xs' hs hx =>
      rw [arr_ext hs fun i hi => ih _ _ (List.all_eq_true.1 (by simpa only [flatD] using h) _ (getD_mem hi)) (hx i hi)]
    | tuple xs xs' hs hx =>
      rw [arr_ext hs fun i hi => ih _ _ (List.all_eq_true.1 (by simpa only [flatD] using h) _ (getD_mem hi)) (hx i hi)]
    | func fn xs ys xs' ys' h1 hx h2 hy =>
      have h' : xs.toList.all (flatD d) = true ∧ ys.toList.all (flatD d) = true := by simpa only [flatD, Bool.and_eq_true] using h
      rw [arr_ext h1 fun i hi => ih _ _ (List.all_eq_true.1 h'.1 _ (getD_mem hi)) (hx i hi), arr_ext h2 fun i hi => ih _ _ (List.all_eq_true.1 h'.2 _ (getD_mem hi)) (hy i hi)]
    | _ => rfl

/-- values of which the machine's side is sure: no slice without room -/
def sureD : Nat → Value → Bool
  | 0, _ => false
  | d + 1, v => match v with
    | .slice (some _) _ c => !(Nat.beq c 0)
    | .iface _ v => sureD d v
    | .agg xs | .tuple xs => xs.toList.all (sureD d)
    | .func _ xs ys => xs.toList.all (sureD d) && ys.toList.all (sureD d)
    | _ => true

theorem VRel.unique {m : Mp} : ∀ (d : Nat) (v v1 v2 : Value), sureD d v = true → (∀ B e, m.f B = some e → 0 < e.sz) → VRel m v v1 → VRel m v v2 → v1 = v2 := by
  intro d
  induction d with
  | zero => intro v v1 v2 h; simp [sureD] at h
  | succ d ih =>
    intro v v1 v2 h hsz h1 h2
    cases h1 with
    | ptr B o e he =>
      cases h2 with
      | ptr _ _ e' he' => rw [he] at he'; cases he'; rfl
    | sl B o l c c' e he g0 g1 g2 g3 g4 g5 =>
      cases h2 with
      | sl _ _ _ _ c2 e' he' k0 k1 k2 k3 k4 k5 =>
        rw [he] at he'; cases he'
        by_cases hx : e.exact o c
        · rw [g3 hx, k3 hx]
        · have e1 := g4 hx
          have e2 := k4 hx
          have : c' * e.sz = c2 * e.sz := by omega
          rw [Nat.eq_of_mul_eq_mul_right (hsz B e he) this]
      | sl0 => omega
    | sl0 => simp [sureD] at h
    | slx B o x l c e he g0 =>
      cases h2 with
      | slx _ _ _ _ _ e' he' k0 => rw [he] at he'; cases he'; rfl
    | iface t v v' hv =>
      cases h2 with
      | iface _ _ v2' hv2 => rw [ih _ _ _ (by simpa [sureD] using h) hsz hv hv2]
    | agg xs xs' hs hx =>
      cases h2 with
      | agg _ ys hs2 hy =>
        congr 1
        exact arr_ext (hs.symm.trans hs2) fun i hi => ih _ _ _ (List.all_eq_true.1 (by simpa only [sureD] using h) _ (getD_mem (by omega))) hsz (hx i (by omega)) (hy i (by omega))
    | tuple xs xs' hs hx =>
      cases h2 with
      | tuple _ ys hs2 hy =>
        congr 1
        exact arr_ext (hs.symm.trans hs2) fun i hi => ih _ _ _ (List.all_eq_true.1 (by simpa only [sureD] using h) _ (getD_mem (by omega))) hsz (hx i (by omega)) (hy i (by omega))
    | func fn xs ys xs' ys' a1 b1 a2 b2 =>
      cases h2 with
      | func _ _ _ us vs c1 d1 c2 d2 =>
        have h' : xs.toList.all (sureD d) = true ∧ ys.toList.all (sureD d) = true := by simpa only [sureD, Bool.and_eq_true] using h
        rw [arr_ext (a1.symm.trans c1) fun i hi => ih _ _ _ (List.all_eq_true.1 h'.1 _ (getD_mem (by omega))) hsz (b1 i (by omega)) (d1 i (by omega)),
          arr_ext (a2.symm.trans c2) fun i hi => ih _ _ _ (List.all_eq_true.1 h'.2 _ (getD_mem (by omega))) hsz (b2 i (by omega)) (d2 i (by omega))]
    | _ => cases h2; rfl

end Go.Det
