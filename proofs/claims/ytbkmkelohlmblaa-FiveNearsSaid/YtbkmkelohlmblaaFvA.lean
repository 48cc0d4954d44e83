/- What functions that the law reaches compute, on a heap of the run's own: the conditions stand in each theorem. -/
import Derived.Test.YtbkmkelohlmblaaFxA
import Derived.Test.YtbkmkelohlmblaaDet25
set_option linter.unusedSimpArgs false
set_option linter.unusedVariables false
namespace Go.Proofs.Ytbkmkelohlmblaa.D
open Go Go.Det

/-! ### equality of arrays of five bytes -/
theorem pr_part {P : Program} {e : TypeId} {cs : Array Value} {i : Nat} {v : Value} (he : P.underlying e = some (.int .u8)) (hv : cs[i]? = some v) : pureRun P (part e cs i) = some v := by
  unfold part isAgg
  simp only [pureRun_bind, pureRun_underlying he, Option.bind_some, hv, pureRun_pure]
  rfl
theorem pr_u8 {P : Program} {e : TypeId} {d : Nat} {a b : Int} (he : P.underlying e = some (.int .u8)) : pureRun P (Op.equalIn (d + 1) e (.int .u8 a) (.int .u8 b)) = some (a == b) := by
  simp only [Op.equalIn, pureRun_bind, pureRun_underlying he, Option.bind_some, if_true, pureRun_pure]
theorem pr_eq5 {P : Program} {t e : TypeId} (hu : P.underlying t = some (.array 5 e)) (he : P.underlying e = some (.int .u8)) (hs : pureRun P (sizeOf e) = some 1) (a0 a1 a2 a3 a4 b0 b1 b2 b3 b4 : Int) :
    pureRun P (Op.equalIn 10000 t (.agg #[.int .u8 a0, .int .u8 a1, .int .u8 a2, .int .u8 a3, .int .u8 a4]) (.agg #[.int .u8 b0, .int .u8 b1, .int .u8 b2, .int .u8 b3, .int .u8 b4])) = some (a0 == b0 && (a1 == b1 && (a2 == b2 && (a3 == b3 && a4 == b4)))) := by
  unfold Op.equalIn
  simp only [pureRun_bind, pureRun_underlying hu, Option.bind_some, hs]
  have hst : ∀ (i : Nat) (x y : Int), (#[.int .u8 a0, .int .u8 a1, .int .u8 a2, .int .u8 a3, .int .u8 a4] : Array Value)[i]? = some (.int .u8 x) → (#[.int .u8 b0, .int .u8 b1, .int .u8 b2, .int .u8 b3, .int .u8 b4] : Array Value)[i]? = some (.int .u8 y) →
      pureRun P (do
            let __do_lift ← part e #[Value.int IntKind.u8 a0, Value.int IntKind.u8 a1, Value.int IntKind.u8 a2, Value.int IntKind.u8 a3, Value.int IntKind.u8 a4] (i * 1)
            let __do_lift_1 ← part e #[Value.int IntKind.u8 b0, Value.int IntKind.u8 b1, Value.int IntKind.u8 b2, Value.int IntKind.u8 b3, Value.int IntKind.u8 b4] (i * 1)
            let __do_lift ← Op.equalIn 9999 e __do_lift __do_lift_1
            if (!__do_lift) = true then pure (ForInStep.done ((some false, ()) : Option Bool × Unit))
              else pure (ForInStep.yield ((none, ()) : Option Bool × Unit))) = some (if x = y then ForInStep.yield (none, ()) else ForInStep.done (some false, ())) := by
    intro i x y hx hy
    rw [Nat.mul_one]
    simp only [pureRun_bind, pr_part he hx, pr_part he hy, Option.bind_some, pr_u8 (d := 9998) he]
    by_cases h : x = y
    · simp [h, pureRun_pure]
    · simp [h, pureRun_pure]
  have h0 := hst 0 a0 b0 rfl rfl
  have h1 := hst 1 a1 b1 rfl rfl
  have h2 := hst 2 a2 b2 rfl rfl
  have h3 := hst 3 a3 b3 rfl rfl
  have h4 := hst 4 a4 b4 rfl rfl
  generalize hf : (fun (i : Nat) (__s : Option Bool × Unit) => (do
            let __do_lift ← part e #[Value.int IntKind.u8 a0, Value.int IntKind.u8 a1, Value.int IntKind.u8 a2, Value.int IntKind.u8 a3, Value.int IntKind.u8 a4] (i * 1)
            let __do_lift_1 ← part e #[Value.int IntKind.u8 b0, Value.int IntKind.u8 b1, Value.int IntKind.u8 b2, Value.int IntKind.u8 b3, Value.int IntKind.u8 b4] (i * 1)
            let __do_lift ← Op.equalIn 9999 e __do_lift __do_lift_1
            if (!__do_lift) = true then pure (ForInStep.done ((some false, ()) : Option Bool × Unit))
              else pure (ForInStep.yield ((none, ()) : Option Bool × Unit)) : Sem _)) = f
  have k0 : pureRun P (f 0 (none, ())) = some (if a0 = b0 then ForInStep.yield (none, ()) else ForInStep.done (some false, ())) := by rw [← hf]; exact h0
  have k1 : pureRun P (f 1 (none, ())) = some (if a1 = b1 then ForInStep.yield (none, ()) else ForInStep.done (some false, ())) := by rw [← hf]; exact h1
  have k2 : pureRun P (f 2 (none, ())) = some (if a2 = b2 then ForInStep.yield (none, ()) else ForInStep.done (some false, ())) := by rw [← hf]; exact h2
  have k3 : pureRun P (f 3 (none, ())) = some (if a3 = b3 then ForInStep.yield (none, ()) else ForInStep.done (some false, ())) := by rw [← hf]; exact h3
  have k4 : pureRun P (f 4 (none, ())) = some (if a4 = b4 then ForInStep.yield (none, ()) else ForInStep.done (some false, ())) := by rw [← hf]; exact h4
  rw [Std.Legacy.Range.forIn_eq_forIn_range']
  simp only [Std.Legacy.Range.size, List.range', List.forIn_cons, List.forIn_nil]
  clear hf h0 h1 h2 h3 h4 hst
  by_cases c0 : a0 = b0
  case neg => simp [pureRun_bind, k0, c0, pureRun_pure]
  by_cases c1 : a1 = b1
  case neg => simp [pureRun_bind, k0, k1, c0, c1, pureRun_pure]
  by_cases c2 : a2 = b2
  case neg => simp [pureRun_bind, k0, k1, k2, c0, c1, c2, pureRun_pure]
  by_cases c3 : a3 = b3
  case neg => simp [pureRun_bind, k0, k1, k2, k3, c0, c1, c2, c3, pureRun_pure]
  by_cases c4 : a4 = b4
  case neg => simp [pureRun_bind, k0, k1, k2, k3, k4, c0, c1, c2, c3, c4, pureRun_pure]
  simp [pureRun_bind, k0, k1, k2, k3, k4, c0, c1, c2, c3, c4, pureRun_pure]

/-! ### five bytes -/
structure W5 where
  e : Int
  a : Int
  b : Int
  c : Int
  d : Int
  deriving DecidableEq
def W5.cells (w : W5) : List Value := [.int .u8 w.e, .int .u8 w.a, .int .u8 w.b, .int .u8 w.c, .int .u8 w.d]
def A5 (w : W5) : Value := .agg #[.int .u8 w.e, .int .u8 w.a, .int .u8 w.b, .int .u8 w.c, .int .u8 w.d]
theorem cells_A5 (w : W5) : vcells (A5 w) = w.cells := rfl
theorem ex_A5 (w : W5) : (some (A5 w)) = some (A5 w) := rfl
def In5 (H : AH) (B : Nat) (w : W5) : Prop := H.get B = some ⟨w.cells, 1, false, false⟩
theorem In5.ext {H H' : AH} {B : Nat} {w : W5} (h : In5 H B w) (x : HExt H H') (hb : B < H.n) : In5 H' B w := by unfold In5; rw [x.2 B hb]; exact h
theorem ld5 {H : AH} {B : Nat} {w : W5} (h : In5 H B w) : pLd (some 5) (.pointer (some ⟨B, 0, none⟩)) H = some (A5 w, H) := by unfold In5 at h; unfold pLd; simp only [h]; rfl
theorem ld5_0 {H : AH} {B : Nat} {w : W5} (h : In5 H B w) : pLd none (.pointer (some ⟨B, 0 + 0 * 1, none⟩)) H = some (.int .u8 w.e, H) := by unfold In5 at h; unfold pLd; simp only [h]; rfl
theorem ld5_1 {H : AH} {B : Nat} {w : W5} (h : In5 H B w) : pLd none (.pointer (some ⟨B, 0 + 1 * 1, none⟩)) H = some (.int .u8 w.a, H) := by unfold In5 at h; unfold pLd; simp only [h]; rfl
theorem ld5_2 {H : AH} {B : Nat} {w : W5} (h : In5 H B w) : pLd none (.pointer (some ⟨B, 0 + 2 * 1, none⟩)) H = some (.int .u8 w.b, H) := by unfold In5 at h; unfold pLd; simp only [h]; rfl
theorem ld5_3 {H : AH} {B : Nat} {w : W5} (h : In5 H B w) : pLd none (.pointer (some ⟨B, 0 + 3 * 1, none⟩)) H = some (.int .u8 w.c, H) := by unfold In5 at h; unfold pLd; simp only [h]; rfl
theorem ld5_4 {H : AH} {B : Nat} {w : W5} (h : In5 H B w) : pLd none (.pointer (some ⟨B, 0 + 4 * 1, none⟩)) H = some (.int .u8 w.d, H) := by unfold In5 at h; unfold pLd; simp only [h]; rfl
theorem st5 {H : AH} {B : Nat} {w : W5} (u : W5) (h : In5 H B w) : pSt 5 (.pointer (some ⟨B, 0, none⟩)) (A5 u) H = some (undef, H.set B ⟨u.cells, 1, false, false⟩) := by
  unfold In5 at h; unfold pSt; simp only [h, Option.bind_some, cells_A5]; rfl
theorem st5_0 {H : AH} {B : Nat} {w : W5} (x : Int) (h : In5 H B w) : pSt 1 (.pointer (some ⟨B, 0 + 0 * 1, none⟩)) (.int .u8 x) H = some (undef, H.set B ⟨({ w with e := x } : W5).cells, 1, false, false⟩) := by
  unfold In5 at h; unfold pSt; simp only [h, Option.bind_some]; rfl
theorem st5_1 {H : AH} {B : Nat} {w : W5} (x : Int) (h : In5 H B w) : pSt 1 (.pointer (some ⟨B, 0 + 1 * 1, none⟩)) (.int .u8 x) H = some (undef, H.set B ⟨({ w with a := x } : W5).cells, 1, false, false⟩) := by
  unfold In5 at h; unfold pSt; simp only [h, Option.bind_some]; rfl
theorem in5_set (H : AH) (B : Nat) (w : W5) : In5 (H.set B ⟨w.cells, 1, false, false⟩) B w := by unfold In5; rw [AH.get_set, if_pos rfl]
theorem in5_push (H : AH) (w : W5) : In5 (H.push ⟨w.cells, 1, false, false⟩) H.n w := by unfold In5; rw [AH.get_push, if_pos rfl]
def Z5 : W5 := ⟨0, 0, 0, 0, 0⟩
/-- a box is made and filled -/
def putB (H : AH) (w : W5) : AH := (H.push ⟨[.int .u8 0, .int .u8 0, .int .u8 0, .int .u8 0, .int .u8 0], 1, false, false⟩).set H.n ⟨w.cells, 1, false, false⟩
theorem in5_putB (H : AH) (w : W5) : In5 (putB H w) H.n w := in5_set _ _ _
theorem putB_n (H : AH) (w : W5) : (putB H w).n = H.n + 1 := rfl
theorem putB_ext (H : AH) (w : W5) : HExt H (putB H w) := ⟨by rw [putB_n]; omega, fun b hb => by unfold putB; rw [AH.get_set, if_neg (by omega), AH.get_push, if_neg (by omega)]⟩
theorem st5_new (H : AH) (u : W5) : pSt 5 (.pointer (some ⟨H.n, 0, none⟩)) (A5 u) (H.push ⟨[.int .u8 0, .int .u8 0, .int .u8 0, .int .u8 0, .int .u8 0], 1, false, false⟩) = some (undef, putB H u) := st5 (w := Z5) u (in5_push H Z5)
theorem xcell5 (fr : Fr) (H : AH) (t B : Nat) (w : W5) (xs : List XRes) (h1 : fr.get t = some (.pointer (some ⟨B, 0, none⟩))) (h2 : In5 H B w) : xress fr H (.cell t (some 5) :: xs) = (xress fr H xs).map fun vs => A5 w :: vs :=
  xress_cell fr H t B 0 (some 5) ⟨w.cells, 1, false, false⟩ (A5 w) xs h1 h2 rfl
theorem zero_agg : (Value.agg #[.int .u8 0, .int .u8 0, .int .u8 0, .int .u8 0, .int .u8 0]) = A5 Z5 := rfl

/-- equality of five bytes, as an operation of a run -/
theorem A5_inj {u w : W5} (h : A5 u = A5 w) : u = w := by
  obtain ⟨a0, a1, a2, a3, a4⟩ := u
  obtain ⟨b0, b1, b2, b3, b4⟩ := w
  simp only [A5, Value.agg.injEq, Array.mk.injEq, List.cons.injEq, Value.int.injEq, true_and, and_true] at h
  obtain ⟨h0, h1, h2, h3, h4⟩ := h
  subst h0 h1 h2 h3 h4
  rfl
open Classical in
noncomputable def alt5 (a b : Option Value) (f : Bool → Option (Value × AH)) (z : Option (Value × AH)) : Option (Value × AH) :=
  if h : ∃ p : W5 × W5, a = some (A5 p.1) ∧ b = some (A5 p.2) then f (decide (h.choose.1 = h.choose.2)) else z
theorem alt5_A5 (u w : W5) (f : Bool → Option (Value × AH)) (z : Option (Value × AH)) : alt5 (some (A5 u)) (some (A5 w)) f z = f (decide (u = w)) := by
  have h : ∃ p : W5 × W5, some (A5 u) = some (A5 p.1) ∧ some (A5 w) = some (A5 p.2) := ⟨(u, w), rfl, rfl⟩
  unfold alt5
  rw [dif_pos h]
  have h1 := A5_inj (Option.some.inj h.choose_spec.1)
  have h2 := A5_inj (Option.some.inj h.choose_spec.2)
  rw [← h1, ← h2]
theorem eq5_dec (u w : W5) : (u.e == w.e && (u.a == w.a && (u.b == w.b && (u.c == w.c && u.d == w.d)))) = decide (u = w) := by
  obtain ⟨a0, a1, a2, a3, a4⟩ := u
  obtain ⟨b0, b1, b2, b3, b4⟩ := w
  simp only [W5.mk.injEq]
  by_cases h0 : a0 = b0 <;> by_cases h1 : a1 = b1 <;> by_cases h2 : a2 = b2 <;> by_cases h3 : a3 = b3 <;> by_cases h4 : a4 = b4 <;> simp [h0, h1, h2, h3, h4]
theorem pr_program {P : Program} : pureRun P program = some P := rfl
structure Arr5 (P : Program) (t : TypeId) : Prop where
  e : ∃ e, P.underlying t = some (.array 5 e) ∧ P.underlying e = some (.int .u8) ∧ pureRun P (sizeOf e) = some 1
  g : P.eqGuardType P.depth t = false
theorem flat_eq5 {P : Program} {fr : Fr} {H : AH} {t : TypeId} (h5 : Arr5 P t) (x y : Operand) (t' ty : TypeId) (a0 a1 a2 a3 a4 b0 b1 b2 b3 b4 : Int)
    (hx : ev fr x = some (.agg #[.int .u8 a0, .int .u8 a1, .int .u8 a2, .int .u8 a3, .int .u8 a4])) (hy : ev fr y = some (.agg #[.int .u8 b0, .int .u8 b1, .int .u8 b2, .int .u8 b3, .int .u8 b4])) :
    xop P fr H (.flat (.binOp .eql t x y ty) t') = some (.bool (a0 == b0 && (a1 == b1 && (a2 == b2 && (a3 == b3 && a4 == b4)))), H) := by
  obtain ⟨⟨e, hu, he, hs⟩, hg⟩ := h5
  refine flat_eq ?_ ?_ rfl
  · simp [Op.operands, evFlat, hx, hy, flatD]
  · have h := pr_eq5 hu he hs a0 a1 a2 a3 a4 b0 b1 b2 b3 b4
    simp only [execOp, flatOper, hx, hy, eqGuard, binOp, Op.equal, show Op.maxDepth = 10000 from rfl, pureRun_bind, pureRun_map, pureRun_pure, Option.getD_some, Bool.not_true, Bool.false_eq_true, if_false, pr_program, Option.bind_some, hg, Bool.not_false, if_true, h, Option.map_some]
theorem flat_ne5 {P : Program} {fr : Fr} {H : AH} {t : TypeId} (h5 : Arr5 P t) (x y : Operand) (t' ty : TypeId) (a0 a1 a2 a3 a4 b0 b1 b2 b3 b4 : Int)
    (hx : ev fr x = some (.agg #[.int .u8 a0, .int .u8 a1, .int .u8 a2, .int .u8 a3, .int .u8 a4])) (hy : ev fr y = some (.agg #[.int .u8 b0, .int .u8 b1, .int .u8 b2, .int .u8 b3, .int .u8 b4])) :
    xop P fr H (.flat (.binOp .neq t x y ty) t') = some (.bool (!(a0 == b0 && (a1 == b1 && (a2 == b2 && (a3 == b3 && a4 == b4))))), H) := by
  obtain ⟨⟨e, hu, he, hs⟩, hg⟩ := h5
  refine flat_eq ?_ ?_ rfl
  · simp [Op.operands, evFlat, hx, hy, flatD]
  · have h := pr_eq5 hu he hs a0 a1 a2 a3 a4 b0 b1 b2 b3 b4
    simp only [execOp, flatOper, hx, hy, eqGuard, binOp, Op.equal, show Op.maxDepth = 10000 from rfl, pureRun_bind, pureRun_map, pureRun_pure, Option.getD_some, Bool.not_true, Bool.false_eq_true, if_false, pr_program, Option.bind_some, hg, Bool.not_false, if_true, h, Option.map_some]
theorem v_eq5 {P : Program} {T : XTab} {fr : Fr} {H : AH} {t : TypeId} (h5 : Arr5 P t) (dd : Option Nat) (x y : Operand) (t' ty : TypeId) : xval P (xc P T) ⟨dd, .flat (.binOp .eql t x y ty) t', none⟩ fr H =
    alt5 (ev fr x) (ev fr y) (fun r => some (.bool r, H)) (xop P fr H (.flat (.binOp .eql t x y ty) t')) := by
  rw [xval_op dd _ fr H rfl]
  by_cases h : ∃ p : W5 × W5, ev fr x = some (A5 p.1) ∧ ev fr y = some (A5 p.2)
  · obtain ⟨⟨u, w⟩, h1, h2⟩ := h
    have := flat_eq5 (H := H) h5 x y t' ty _ _ _ _ _ _ _ _ _ _ h1 h2
    rw [this, h1, h2, alt5_A5, eq5_dec]
  · unfold alt5; rw [dif_neg h]
theorem v_ne5 {P : Program} {T : XTab} {fr : Fr} {H : AH} {t : TypeId} (h5 : Arr5 P t) (dd : Option Nat) (x y : Operand) (t' ty : TypeId) : xval P (xc P T) ⟨dd, .flat (.binOp .neq t x y ty) t', none⟩ fr H =
    alt5 (ev fr x) (ev fr y) (fun r => some (.bool (!r), H)) (xop P fr H (.flat (.binOp .neq t x y ty) t')) := by
  rw [xval_op dd _ fr H rfl]
  by_cases h : ∃ p : W5 × W5, ev fr x = some (A5 p.1) ∧ ev fr y = some (A5 p.2)
  · obtain ⟨⟨u, w⟩, h1, h2⟩ := h
    have := flat_ne5 (H := H) h5 x y t' ty _ _ _ _ _ _ _ _ _ _ h1 h2
    rw [this, h1, h2, alt5_A5, eq5_dec]
  · unfold alt5; rw [dif_neg h]
theorem v_idxAA {P : Program} {T : XTab} {fr : Fr} {H : AH} (dd : Option Nat) (n sz : Nat) (x : Operand) (k : Nat) (B o : Nat) (hk : Nat.blt k n = true) (hx : ev fr x = some (.pointer (some ⟨B, o, none⟩))) : xval P (xc P T) ⟨dd, .idxAA n sz x (.const (.int .i64 (k : Int))), none⟩ fr H = some (.pointer (some ⟨B, o + k * sz, none⟩), H) := by
  rw [xval_op dd _ fr H rfl]
  show (match ev fr x, ev fr (.const (.int .i64 (k : Int))) with | some (.pointer (some ⟨B, o, none⟩)), some (.int _ (.ofNat k)) => bif Nat.blt k n then some (Value.pointer (some ⟨B, o + k * sz, none⟩), H) else none | _, _ => none) = _
  rw [hx]
  show (bif Nat.blt k n then some (Value.pointer (some ⟨B, o + k * sz, none⟩), H) else none) = _
  rw [hk]; rfl
end Go.Proofs.Ytbkmkelohlmblaa.D
