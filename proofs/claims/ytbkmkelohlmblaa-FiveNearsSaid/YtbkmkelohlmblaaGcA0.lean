/- What functions that the law reaches compute, on a heap of the run's own: the conditions stand in each theorem. -/
import Derived.Test.YtbkmkelohlmblaaDet25
set_option linter.unusedSimpArgs false
set_option linter.unusedVariables false
namespace Go.Det
/-! ### closures -/
def pCallV (c : XCall) (g : Value) (vs : List Value) (H : AH) : Option (Value × AH) :=
  match g with
  | .func (.func f) first caps => c f (first.toList ++ vs ++ caps.toList) H
  | _ => none
theorem v_callv {P : Program} {T : XTab} (fr : Fr) (H : AH) (dd : Option Nat) (y : Operand) (args : List Operand) : xval P (xc P T) ⟨dd, .callv y args, none⟩ fr H = (ev fr y).bind fun g => (evs fr args).bind fun vs => pCallV (xc P T) g vs H := by
  unfold xval
  simp only [xwanted]
  rcases ev fr y with _ | g
  · rfl
  rcases evs fr args with _ | vs
  · cases g <;> try rfl
    rename_i fn a b
    cases fn <;> rfl
  cases g <;> try rfl
  rename_i fn a b
  cases fn <;> rfl
theorem pCallV_func (c : XCall) (f : FuncId) (first caps : Array Value) (vs : List Value) (H : AH) : pCallV c (.func (.func f) first caps) vs H = c f (first.toList ++ vs ++ caps.toList) H := rfl
theorem v_mkf {P : Program} {T : XTab} (fr : Fr) (H : AH) (dd : Option Nat) (f : FuncId) (args caps : List Operand) : xval P (xc P T) ⟨dd, .mkf (.func f) args caps, none⟩ fr H = (evs fr args).bind fun a => (evs fr caps).map fun b => (.func (.func f) a.toArray b.toArray, H) := by
  rw [xval_op dd _ fr H rfl]
  simp only [xop]
  rcases evs fr args with _ | a
  · rfl
  rcases evs fr caps with _ | b <;> rfl
end Go.Det
