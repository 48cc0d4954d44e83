/- A part of a run of a program on a heap of its own, and that the machine does what that run says: no condition but those that each theorem names. -/
import Derived.Test.YtbkmkelohlmblaaDet23
set_option linter.unusedSimpArgs false
set_option linter.unusedVariables false
namespace Go.Det
/-! bits of bytes -/
theorem wrU8' (n : Int) (h0 : 0 ≤ n) (h1 : n < 256) : IntKind.u8.wrap n = n := by
  show (if (false && decide (n % (2 ^ 8 : Int) ≥ (2 ^ 7 : Int))) = true then n % (2 ^ 8 : Int) - (2 ^ 8 : Int) else n % (2 ^ 8 : Int)) = n
  rw [show (2 : Int) ^ 8 = 256 from rfl]
  simp only [Bool.false_and, Bool.false_eq_true, if_false]
  omega
theorem wrU8m (n : Int) : IntKind.u8.wrap n = n % 256 := by
  show (if (false && decide (n % (2 ^ 8 : Int) ≥ (2 ^ 7 : Int))) = true then n % (2 ^ 8 : Int) - (2 ^ 8 : Int) else n % (2 ^ 8 : Int)) = n % 256
  rw [show (2 : Int) ^ 8 = 256 from rfl]
  simp only [Bool.false_and, Bool.false_eq_true, if_false]
theorem b_xor (x y : Nat) (hx : x < 256) (hy : y < 256) : IntKind.u8.wrap ((BitVec.ofInt IntKind.u8.bits (x : Int) ^^^ BitVec.ofInt IntKind.u8.bits (y : Int)).toNat : Int) = ((x ^^^ y : Nat) : Int) := by
  have h : x ^^^ y < 2 ^ 8 := Nat.xor_lt_two_pow (by simpa using hx) (by simpa using hy)
  have h1 : (BitVec.ofInt IntKind.u8.bits (x : Int) ^^^ BitVec.ofInt IntKind.u8.bits (y : Int)).toNat = x ^^^ y := by
    show (BitVec.ofInt 8 (x : Int) ^^^ BitVec.ofInt 8 (y : Int)).toNat = x ^^^ y
    rw [BitVec.toNat_xor, BitVec.ofInt_natCast, BitVec.ofInt_natCast, BitVec.toNat_ofNat, BitVec.toNat_ofNat, Nat.mod_eq_of_lt (by omega), Nat.mod_eq_of_lt (by omega)]
  rw [h1, wrU8' _ (by omega) (by omega)]
theorem b_and (x y : Nat) (hx : x < 256) (hy : y < 256) : IntKind.u8.wrap ((BitVec.ofInt IntKind.u8.bits (x : Int) &&& BitVec.ofInt IntKind.u8.bits (y : Int)).toNat : Int) = ((x &&& y : Nat) : Int) := by
  have h : x &&& y ≤ x := Nat.and_le_left
  have h1 : (BitVec.ofInt IntKind.u8.bits (x : Int) &&& BitVec.ofInt IntKind.u8.bits (y : Int)).toNat = x &&& y := by
    show (BitVec.ofInt 8 (x : Int) &&& BitVec.ofInt 8 (y : Int)).toNat = x &&& y
    rw [BitVec.toNat_and, BitVec.ofInt_natCast, BitVec.ofInt_natCast, BitVec.toNat_ofNat, BitVec.toNat_ofNat, Nat.mod_eq_of_lt (by omega), Nat.mod_eq_of_lt (by omega)]
  rw [h1, wrU8' _ (by omega) (by omega)]
theorem b_or (x y : Nat) (hx : x < 256) (hy : y < 256) : IntKind.u8.wrap ((BitVec.ofInt IntKind.u8.bits (x : Int) ||| BitVec.ofInt IntKind.u8.bits (y : Int)).toNat : Int) = ((x ||| y : Nat) : Int) := by
  have h : x ||| y < 2 ^ 8 := Nat.or_lt_two_pow (by simpa using hx) (by simpa using hy)
  have h1 : (BitVec.ofInt IntKind.u8.bits (x : Int) ||| BitVec.ofInt IntKind.u8.bits (y : Int)).toNat = x ||| y := by
    show (BitVec.ofInt 8 (x : Int) ||| BitVec.ofInt 8 (y : Int)).toNat = x ||| y
    rw [BitVec.toNat_or, BitVec.ofInt_natCast, BitVec.ofInt_natCast, BitVec.toNat_ofNat, BitVec.toNat_ofNat, Nat.mod_eq_of_lt (by omega), Nat.mod_eq_of_lt (by omega)]
  rw [h1, wrU8' _ (by omega) (by omega)]
theorem n_xor (x y : Nat) (hx : x < 9223372036854775808) (hy : y < 9223372036854775808) :
    IntKind.i64.wrap ((BitVec.ofInt IntKind.i64.bits (x : Int) ^^^ BitVec.ofInt IntKind.i64.bits (y : Int)).toNat : Int) = ((x ^^^ y : Nat) : Int) := some_int (bits_xor x y hx hy)
theorem n_and (x y : Nat) (hx : x < 9223372036854775808) (hy : y < 9223372036854775808) :
    IntKind.i64.wrap ((BitVec.ofInt IntKind.i64.bits (x : Int) &&& BitVec.ofInt IntKind.i64.bits (y : Int)).toNat : Int) = ((x &&& y : Nat) : Int) := some_int (bits_and x y hx hy)
theorem n_or (x y : Nat) (hx : x < 9223372036854775808) (hy : y < 9223372036854775808) :
    IntKind.i64.wrap ((BitVec.ofInt IntKind.i64.bits (x : Int) ||| BitVec.ofInt IntKind.i64.bits (y : Int)).toNat : Int) = ((x ||| y : Nat) : Int) := some_int (bits_or x y hx hy)
theorem shrN (x k : Nat) : ((x : Nat) : Int).fdiv (2 ^ k) = ((x >>> k : Nat) : Int) := by
  have h : (2 : Int) ^ k = ((2 ^ k : Nat) : Int) := (Int.natCast_pow 2 k).symm
  rw [h, Int.fdiv_eq_ediv_of_nonneg _ (Int.natCast_nonneg _), Nat.shiftRight_eq_div_pow, Int.natCast_ediv]
theorem and1 (x k : Nat) : (((x >>> k &&& 1 : Nat) : Int) == 1) = x.testBit k := by
  rw [Nat.and_one_is_mod, Nat.testBit_eq_decide_div_mod_eq, Nat.shiftRight_eq_div_pow]
  have : ((((x / 2 ^ k % 2 : Nat)) : Int) == 1) = decide ((((x / 2 ^ k % 2 : Nat)) : Int) = 1) := rfl
  rw [this]
  apply decide_eq_decide.2
  omega
theorem v_bs0 {P : Program} {T : XTab} (fr : Fr) (H : AH) (dd : Option Nat) (e : TypeId) (z : Value) : xval P (xc P T) ⟨dd, .bslice e 1 0 [z] [], none⟩ fr H = some (.slice (some ⟨H.n, 0, none⟩) 0 0, H.push ⟨[], 1, false, false⟩) := rfl
theorem own_bs0 (H : AH) : Own H.n 1 (H.push ⟨[], 1, false, false⟩) (.slice (some ⟨H.n, 0, none⟩) 0 0) 0 [] := Own.pushed H [] 1 0 false rfl
theorem got_call_inv {P : Program} {T : XTab} {f : FuncId} {body : XCode} {res : List XRes} (hT : T f = some (.code body res)) {args : List Value} {H : AH} {Q : Value → AH → Prop} (h : Got (xc P T f args H) Q) : Run P T body (ofArgs 0 args) H (retQ res Q) := by
  obtain ⟨v, H', h, q⟩ := h
  unfold xc xcallOf at h
  rw [hT] at h
  simp only [] at h
  split at h
  · rename_i fr H2 hx
    cases hv : xresult fr H2 res with
    | none => rw [hv] at h; cases h
    | some v2 => rw [hv] at h; cases h; exact ⟨_, _, _, hx, _, hv, q⟩
  · rename_i fr H2 hx
    cases hv : xresult fr H2 res with
    | none => rw [hv] at h; cases h
    | some v2 => rw [hv] at h; cases h; exact ⟨_, _, _, hx, _, hv, q⟩
  · cases h
/-- a run whose value is true, found by computing it -/
def okT (o : Option (Value × AH)) : Bool := match o with | some (.bool true, _) => true | _ => false
theorem okT_get {o : Option (Value × AH)} (h : okT o = true) : ∃ H', o = some (.bool true, H') := by
  unfold okT at h
  split at h
  · exact ⟨_, rfl⟩
  · cases h
theorem okT_got {P : Program} {T : XTab} {k : Nat} {f : FuncId} {args : List Value} {H : AH} (h : okT (xcall P T k f args H) = true) : Got (xc P T f args H) fun v H' => v = .bool true := by
  obtain ⟨H', h⟩ := okT_get h
  exact ⟨_, H', xc_iff.2 ⟨_, h⟩, rfl⟩
end Go.Det
