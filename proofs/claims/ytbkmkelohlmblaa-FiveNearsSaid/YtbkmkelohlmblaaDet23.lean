/- A part of a run of a program on a heap of its own, and that the machine does what that run says: no condition but those that each theorem names. -/
import Derived.Test.YtbkmkelohlmblaaDet22
set_option linter.unusedSimpArgs false
set_option linter.unusedVariables false
namespace Go.Det

variable {P : Program} {T : XTab} {fr : Fr} {H : AH}
def pCap (v : Value) (H : AH) : Option (Value × AH) :=
  match v with
  | .slice none 0 0 => some (.int .i64 0, H)
  | .slice (some ⟨B, o, none⟩) _ c => match H.get B with
    | some blk => bif !blk.opn || Nat.blt (o + c * blk.sz) blk.cells.length then some (.int .i64 (Int.ofNat c), H) else none
    | none => none
  | _ => none
theorem e_cap (a : Operand) : xop P fr H (.cap a) = (ev fr a).bind fun v => pCap v H := by
  simp only [xop]
  rcases ev fr a with _ | v
  · rfl
  cases v <;> try rfl
  rename_i p l c
  cases p with
  | none => cases l <;> cases c <;> rfl
  | some ad =>
    obtain ⟨B, o, s⟩ := ad
    cases s <;> rfl
theorem v_cap (dd : Option Nat) (x : Operand) : xval P (xc P T) ⟨dd, (.cap x), none⟩ fr H = (ev fr x).bind fun a => pCap a H := (xval_op dd _ fr H rfl).trans (e_cap x)
theorem pCap_nil (H : AH) : pCap (.slice none 0 0) H = some (.int .i64 0, H) := rfl

/-! ### bits -/
theorem bits_xor (a b : Nat) (ha : a < 9223372036854775808) (hb : b < 9223372036854775808) : ibin .xor .i64 (a : Int) (b : Int) = some (.int .i64 ((a ^^^ b : Nat) : Int)) := by
  have h : a ^^^ b < 2 ^ 63 := Nat.xor_lt_two_pow (by simpa using ha) (by simpa using hb)
  have h1 : (BitVec.ofInt IntKind.i64.bits (a : Int) ^^^ BitVec.ofInt IntKind.i64.bits (b : Int)).toNat = a ^^^ b := by
    show (BitVec.ofInt 64 (a : Int) ^^^ BitVec.ofInt 64 (b : Int)).toNat = a ^^^ b
    rw [BitVec.toNat_xor, BitVec.ofInt_natCast, BitVec.ofInt_natCast, BitVec.toNat_ofNat, BitVec.toNat_ofNat, Nat.mod_eq_of_lt (by omega), Nat.mod_eq_of_lt (by omega)]
  simp only [ibin, h1]
  rw [wrI _ (by omega) (by omega)]
theorem bits_and (a b : Nat) (ha : a < 9223372036854775808) (hb : b < 9223372036854775808) : ibin .and .i64 (a : Int) (b : Int) = some (.int .i64 ((a &&& b : Nat) : Int)) := by
  have h : a &&& b ≤ a := Nat.and_le_left
  have h1 : (BitVec.ofInt IntKind.i64.bits (a : Int) &&& BitVec.ofInt IntKind.i64.bits (b : Int)).toNat = a &&& b := by
    show (BitVec.ofInt 64 (a : Int) &&& BitVec.ofInt 64 (b : Int)).toNat = a &&& b
    rw [BitVec.toNat_and, BitVec.ofInt_natCast, BitVec.ofInt_natCast, BitVec.toNat_ofNat, BitVec.toNat_ofNat, Nat.mod_eq_of_lt (by omega), Nat.mod_eq_of_lt (by omega)]
  simp only [ibin, h1]
  rw [wrI _ (by omega) (by omega)]
theorem bits_or (a b : Nat) (ha : a < 9223372036854775808) (hb : b < 9223372036854775808) : ibin .or .i64 (a : Int) (b : Int) = some (.int .i64 ((a ||| b : Nat) : Int)) := by
  have h : a ||| b < 2 ^ 63 := Nat.or_lt_two_pow (by simpa using ha) (by simpa using hb)
  have h1 : (BitVec.ofInt IntKind.i64.bits (a : Int) ||| BitVec.ofInt IntKind.i64.bits (b : Int)).toNat = a ||| b := by
    show (BitVec.ofInt 64 (a : Int) ||| BitVec.ofInt 64 (b : Int)).toNat = a ||| b
    rw [BitVec.toNat_or, BitVec.ofInt_natCast, BitVec.ofInt_natCast, BitVec.toNat_ofNat, BitVec.toNat_ofNat, Nat.mod_eq_of_lt (by omega), Nat.mod_eq_of_lt (by omega)]
  simp only [ibin, h1]
  rw [wrI _ (by omega) (by omega)]

/-! the same, as simp meets them when `ibin` is unfolded -/
theorem some_int {k : IntKind} {a b : Int} (h : some (Value.int k a) = some (Value.int k b)) : a = b := by
  simpa using h
theorem w_xor (x y : Int) (hx : 0 ≤ x) (hx' : x < 9223372036854775808) (hy : 0 ≤ y) (hy' : y < 9223372036854775808) :
    IntKind.i64.wrap ((BitVec.ofInt IntKind.i64.bits x ^^^ BitVec.ofInt IntKind.i64.bits y).toNat : Int) = ((x.toNat ^^^ y.toNat : Nat) : Int) := by
  have := some_int (bits_xor x.toNat y.toNat (by omega) (by omega))
  rw [Int.toNat_of_nonneg hx, Int.toNat_of_nonneg hy] at this
  exact this
theorem w_and (x y : Int) (hx : 0 ≤ x) (hx' : x < 9223372036854775808) (hy : 0 ≤ y) (hy' : y < 9223372036854775808) :
    IntKind.i64.wrap ((BitVec.ofInt IntKind.i64.bits x &&& BitVec.ofInt IntKind.i64.bits y).toNat : Int) = ((x.toNat &&& y.toNat : Nat) : Int) := by
  have := some_int (bits_and x.toNat y.toNat (by omega) (by omega))
  rw [Int.toNat_of_nonneg hx, Int.toNat_of_nonneg hy] at this
  exact this
theorem w_or (x y : Int) (hx : 0 ≤ x) (hx' : x < 9223372036854775808) (hy : 0 ≤ y) (hy' : y < 9223372036854775808) :
    IntKind.i64.wrap ((BitVec.ofInt IntKind.i64.bits x ||| BitVec.ofInt IntKind.i64.bits y).toNat : Int) = ((x.toNat ||| y.toNat : Nat) : Int) := by
  have := some_int (bits_or x.toNat y.toNat (by omega) (by omega))
  rw [Int.toNat_of_nonneg hx, Int.toNat_of_nonneg hy] at this
  exact this
end Go.Det
