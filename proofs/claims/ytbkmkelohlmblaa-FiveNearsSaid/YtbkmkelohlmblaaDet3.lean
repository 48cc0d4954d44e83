/- A part of a run of a program on a heap of its own, and that the machine does what that run says: no condition but those that each theorem names. -/
import Derived.Test.YtbkmkelohlmblaaDet2
namespace Go.Det

/-! ### operations -/
inductive XOp where
  | mov (x : Operand)
  | pick (c a b : Operand)
  | new (t : TypeId) (sz : Nat) (zs : List Value)
  | box (t : TypeId) (sz : Nat) (x : Operand)
  | build (zs : List Value) (ps : List (Nat × Nat × Operand))
  | bslice (e : TypeId) (sz n : Nat) (zs : List Value) (ps : List (Nat × Operand))
  | ld (n : Option Nat) (a : Operand)
  | st (n : Nat) (a v : Operand)
  | nilck (x : Operand)
  | bin (op : BinOp) (x y : Operand)
  | isnil (neg : Bool) (c : Value) (x : Operand)
  | conv (k : IntKind) (x : Operand)
  | s2b (e : TypeId) (x : Operand)
  | b2s (x : Operand)
  | cvs (x : Operand)
  | fld (off : Nat) (n : Option Nat) (x : Operand)
  | fldA (off : Nat) (x : Operand)
  | idxA (sz : Nat) (x i : Operand)
  | idxAA (len sz : Nat) (x i : Operand)
  | idxV (len sz : Nat) (n : Option Nat) (x i : Operand)
  | mks (e : TypeId) (sz bytes : Nat) (zs : List Value) (l c : Operand)
  | slc (sz : Nat) (x : Operand) (lo hi mx : Option Operand)
  | slcA (len sz : Nat) (x : Operand) (lo hi mx : Option Operand)
  | len (x : Operand)
  | lens (x : Operand)
  | cap (x : Operand)
  | app (e : TypeId) (sz bytes : Nat) (zs : List Value) (x y : Operand)
  | appN (e : TypeId) (sz bytes : Nat) (zs : List Value) (x y : Operand)
  | copy (sz : Nat) (x y : Operand)
  | clr (sz : Nat) (zs : List Value) (x : Operand)
  | mkf (fn : Fn) (first caps : List Operand)
  | ext (x : Operand) (i : Nat)
  | mkI (t : TypeId) (x : Operand)
  | flat (op : Op) (ty : TypeId)
  | call (f : FuncId) (args : List Operand)
  | callv (x : Operand) (args : List Operand)
  deriving Inhabited

def ev (fr : Fr) : Operand → Option Value
  | .tmp t => fr.get t
  | .const v => some v
  | .global g => some (.pointer (some ⟨g, 0, none⟩))
  | .func f => some (.func (.func f) #[] #[])

def evs (fr : Fr) : List Operand → Option (List Value)
  | [] => some []
  | x :: xs => match ev fr x, evs fr xs with
    | some v, some vs => some (v :: vs)
    | _, _ => none

def vcells : Value → List Value
  | .agg cs => cs.toList
  | v => [v]

def one : Value → Bool
  | .agg _ | .tuple _ => false
  | _ => true

/-- what runs without memory -/
def pureRun {α : Type} (P : Program) : Sem α → Option α
  | .pure a => some a
  | .program k => pureRun P (k P)
  | .mark _ k => pureRun P k
  | _ => none

theorem pureRun_run {α : Type} (P : Program) (w : World) : ∀ (s : Sem α) (a : α), pureRun P s = some a → s.run P w = .ok a w
  | .pure b, a, h => by simp [pureRun] at h; simp [h]
  | .program k, a, h => by simp only [pureRun] at h; simp only [Sem.run]; exact pureRun_run P w (k P) a h
  | .mark _ k, a, h => by simp only [pureRun] at h; simp only [Sem.run]; exact pureRun_run P w k a h
  | .load .., _, h | .store .., _, h | .new .., _, h | .shape .., _, h | .freeze .., _, h | .frozen .., _, h | .getObj .., _, h | .setObj .., _, h | .choose .., _, h | .sys .., _, h | .halt _, _, h => by simp [pureRun] at h

def ibin (op : BinOp) (k : IntKind) (x y : Int) : Option Value :=
  match op with
  | .add => some (.int k (k.wrap (x + y)))
  | .sub => some (.int k (k.wrap (x - y)))
  | .mul => some (.int k (k.wrap (x * y)))
  | .quo => if y = 0 then none else some (.int k (k.wrap (x.tdiv y)))
  | .rem => if y = 0 then none else some (.int k (x.tmod y))
  | .and => some (.int k (k.wrap (BitVec.ofInt k.bits x &&& BitVec.ofInt k.bits y).toNat))
  | .or => some (.int k (k.wrap (BitVec.ofInt k.bits x ||| BitVec.ofInt k.bits y).toNat))
  | .xor => some (.int k (k.wrap (BitVec.ofInt k.bits x ^^^ BitVec.ofInt k.bits y).toNat))
  | .andNot => some (.int k (k.wrap (BitVec.ofInt k.bits x &&& ~~~ BitVec.ofInt k.bits y).toNat))
  | .eql => some (.bool (x == y))
  | .neq => some (.bool (x != y))
  | .lss => some (.bool (x < y))
  | .leq => some (.bool (x ≤ y))
  | .gtr => some (.bool (x > y))
  | .geq => some (.bool (x ≥ y))
  | _ => none

def sbin (op : BinOp) (x y : ByteArray) : Option Value :=
  match op with
  | .add => if ((x.size + y.size : Nat) : Int) > IntKind.i64.max then none else some (.string (x ++ y))
  | .eql => some (.bool (x.toList == y.toList))
  | .neq => some (.bool !(x.toList == y.toList))
  | .lss => some (.bool (Op.bytesLess x.toList y.toList))
  | .leq => some (.bool (Op.bytesLess x.toList y.toList || x.toList == y.toList))
  | .gtr => some (.bool !(Op.bytesLess x.toList y.toList || x.toList == y.toList))
  | .geq => some (.bool !(Op.bytesLess x.toList y.toList))
  | _ => none

def xbin (op : BinOp) (a b : Value) : Option Value :=
  match a, b with
  | .int k x, .int k' y => match op with
    | .shl => if y < 0 then none else some (.int k (k.wrap (x * 2 ^ (min y.toNat k.bits))))
    | .shr => if y < 0 then none else some (.int k (x.fdiv (2 ^ (min y.toNat k.bits))))
    | op => if k = k' then ibin op k x y else none
  | .string x, .string y => sbin op x y
  | _, _ => none

def xisnil (c v : Value) : Option Bool :=
  match c, v with
  | .pointer none, .pointer a => some a.isNone
  | .slice none 0 0, .slice a _ _ => some a.isNone
  | .map none, .map a => some a.isNone
  | .nilFunc, .nilFunc => some true
  | .nilFunc, .func _ _ _ => some false
  | .nilIface, .nilIface => some true
  | .nilIface, .iface _ _ => some false
  | _, _ => none

/-- put values over cells -/
def splice (cs : List Value) (off : Nat) (vs : List Value) : List Value := cs.take off ++ vs ++ cs.drop (off + vs.length)

def xfill (fr : Fr) : List (Nat × Nat × Operand) → List Value → Option (List Value)
  | [], cs => some cs
  | (off, n, x) :: ps, cs => match ev fr x with
    | some v => let vs := vcells v
      bif Nat.beq vs.length n && Nat.ble (off + n) cs.length && vs.all one then xfill fr ps (splice cs off vs) else none
    | none => none

def rep : Nat → List Value → List Value
  | 0, _ => []
  | n + 1, zs => zs ++ rep n zs

def optEv (fr : Fr) : Option Operand → Option (Option Value)
  | none => some none
  | some x => match ev fr x with
    | some v => some (some v)
    | none => none

def natOf (d : Nat) : Option Value → Option Nat
  | none => some d
  | some (.int _ (.ofNat n)) => some n
  | _ => none

/-- the bytes of a string, as cells -/
def strCells (s : ByteArray) : List Value := s.data.toList.map fun b => .int .u8 b.toNat

/-- the cells of a slice or string: so many elements -/
def src (H : AH) (sz n : Nat) : Value → Option (List Value)
  | .slice none _ _ => bif Nat.beq n 0 then some [] else none
  | .slice (some ⟨B, o, none⟩) l _ => match H.get B with
    | some blk => bif Nat.ble n l && Nat.ble (o + n * sz) blk.cells.length && ((blk.cells.drop o).take (n * sz)).all one then some ((blk.cells.drop o).take (n * sz)) else none
    | none => bif Nat.beq n 0 then some [] else none
  | .string s => bif Nat.beq sz 1 && Nat.beq n s.size then some (strCells s) else none
  | _ => none

def srcLen : Value → Option Nat
  | .slice _ l _ => some l
  | .string s => some s.size
  | _ => none

/-- cells behind those of a slice -/
def xappC (H : AH) (sz bytes n : Nat) (cs : List Value) (x : Value) : Option (Value × AH) :=
  match x with
  | .slice none 0 0 =>
    bif Nat.beq n 0 then some (x, H)
    else bif Nat.ble (n * bytes) 140737488355328 && Nat.ble 1 bytes then some (.slice (some ⟨H.n, 0, none⟩) n n, H.push ⟨cs, sz, true, false⟩)
    else none
  | .slice (some ⟨B, o, none⟩) l c =>
    match H.get B with
    | none => none
    | some blk =>
      bif !(Nat.beq blk.sz sz) || !(Nat.ble l c) || !(Nat.ble (o + c * sz) blk.cells.length) || !(Nat.ble 1 sz) then none else
      bif Nat.beq n 0 then some (x, H)
      else bif Nat.ble (l + n) c then
        bif blk.ro then none else
        some (.slice (some ⟨B, o, none⟩) (l + n) c, H.set B { blk with cells := splice blk.cells (o + l * sz) cs })
      else bif !(Nat.ble ((l + n) * bytes) 140737488355328 && Nat.ble 1 bytes) then none
      else bif !blk.opn || Nat.blt (o + c * sz) blk.cells.length then
        some (.slice (some ⟨H.n, 0, none⟩) (l + n) (l + n), H.push ⟨(blk.cells.drop o).take (l * sz) ++ cs, sz, true, false⟩)
      else bif blk.ro then none else
        some (.slice (some ⟨H.n, 0, none⟩) (l + n) (l + n), (H.kill B).push ⟨(blk.cells.drop o).take (l * sz) ++ cs, sz, true, false⟩)
  | _ => none

def xapp (H : AH) (sz bytes : Nat) (x y : Value) : Option (Value × AH) :=
  match srcLen y with
  | none => none
  | some n => match src H sz n y with
    | none => none
    | some cs => xappC H sz bytes n cs x

/-- so many zeros behind those of a slice -/
def xappN (H : AH) (sz bytes : Nat) (zs : List Value) (x y : Value) : Option (Value × AH) :=
  match y with
  | .int _ (.ofNat n) => bif Nat.ble (n * bytes) 140737488355328 && Nat.ble n 140737488355328 && (rep n zs).all one then xappC H sz bytes n (rep n zs) x else none
  | _ => none

def xcopy (H : AH) (sz : Nat) (x y : Value) : Option (Value × AH) :=
  match srcLen y with
  | none => none
  | some m =>
    match x with
    | .slice none 0 0 => some (.int .i64 0, H)
    | .slice (some ⟨B, o, none⟩) l _ =>
      let n := Nat.min m l
      match H.get B, src H sz n (match y with | .string s => .string (s.extract 0 n) | y => y) with
      | some blk, some cs =>
        bif !blk.ro && Nat.ble (o + l * sz) blk.cells.length then some (.int .i64 (Int.ofNat n), H.set B { blk with cells := splice blk.cells o cs }) else none
      | _, _ => none
    | _ => none

def xclr (H : AH) (sz : Nat) (zs : List Value) (x : Value) : Option (Value × AH) :=
  match x with
  | .slice none 0 0 => some (.tuple #[], H)
  | .slice (some ⟨B, o, none⟩) l _ => match H.get B with
    | some blk => bif !blk.ro && Nat.ble (o + l * sz) blk.cells.length && (rep l zs).all one then some (.tuple #[], H.set B { blk with cells := splice blk.cells o (rep l zs) }) else none
    | none => none
  | _ => none

def isSomeV : Option Value → Bool
  | some _ => true
  | none => false

def xslc (H : AH) (sz : Nat) (x : Value) (lo hi mx : Option Value) : Option Value :=
  match x with
  | .slice none 0 0 => match natOf 0 lo, natOf 0 hi, natOf 0 mx with
    | some 0, some 0, some 0 => some x
    | _, _, _ => none
  | .slice (some ⟨B, o, none⟩) l c => match H.get B with
    | none => bif Nat.beq l 0 && Nat.beq c 0 && !(isSomeV mx) then match natOf 0 lo, natOf 0 hi with
      | some 0, some 0 => some (.slice (some ⟨B, o, none⟩) l c)
      | _, _ => none
      else none
    | some blk => match natOf c mx with
      | none => none
      | some m => match natOf l hi with
        | none => none
        | some h => match natOf 0 lo with
          | none => none
          | some i => bif Nat.beq blk.sz sz && Nat.ble i h && Nat.ble h m && Nat.ble m c && (!(isSomeV mx) || !blk.opn || Nat.blt (o + m * sz) blk.cells.length) then some (.slice (some ⟨B, o + i * sz, none⟩) (h - i) (m - i)) else
            bif Nat.beq blk.sz sz && Nat.ble i h && Nat.ble h m && Nat.ble m c && isSomeV mx && Nat.blt i m then some (.slice (some ⟨B, o + i * sz, some 0⟩) (h - i) (m - i)) else none
  | _ => none

def xslcA (H : AH) (len sz : Nat) (x : Value) (lo hi mx : Option Value) : Option Value :=
  match x with
  | .pointer (some ⟨B, o, none⟩) => match H.get B with
    | none => none
    | some blk => match natOf len mx with
      | none => none
      | some m => match natOf len hi with
        | none => none
        | some h => match natOf 0 lo with
          | none => none
          | some i => bif Nat.beq blk.sz sz && Nat.ble i h && Nat.ble h m && Nat.ble m len && Nat.ble (o + len * sz) blk.cells.length && (!blk.opn || Nat.blt (o + m * sz) blk.cells.length) then some (.slice (some ⟨B, o + i * sz, none⟩) (h - i) (m - i)) else none
  | _ => none

def partV (cs : List Value) (off : Nat) : Option Nat → Option Value
  | none => cs[off]?
  | some n => bif Nat.ble (off + n) cs.length then some (.agg ((cs.drop off).take n).toArray) else none

def flatOper (op : Op) (ty : TypeId) : Oper := ⟨none, op, ty, "", #[], none⟩

def evFlat (fr : Fr) (x : Operand) : Bool :=
  match ev fr x with
  | some v => flatD 4 v
  | none => false

def isU8 : Value → Bool
  | .int .u8 _ => true
  | _ => false

def u8Of : Value → UInt8
  | .int _ n => UInt8.ofNat n.toNat
  | _ => 0

def xflat (P : Program) (fr : Fr) (op : Op) (ty : TypeId) : Option Value :=
  bif op.operands.all (evFlat fr) then
    match pureRun P (execOp (fun x => (ev fr x).getD undef) (flatOper op ty)) with
    | some (.value v) => bif flatD 4 v then some v else none
    | _ => none
  else none

def isSome' : Option Operand → Bool
  | some _ => true
  | none => false

def xop (P : Program) (fr : Fr) (H : AH) : XOp → Option (Value × AH)
  | .mov x => match ev fr x with
    | some v => some (v, H)
    | none => none
  | .pick c a b => match ev fr c with
    | some (.bool true) => match ev fr a with
      | some v => some (v, H)
      | none => none
    | some (.bool false) => match ev fr b with
      | some v => some (v, H)
      | none => none
    | _ => none
  | .new _ sz zs => some (.pointer (some ⟨H.n, 0, none⟩), H.push ⟨zs, sz, false, false⟩)
  | .box _ sz x => match ev fr x with
    | some v => some (.pointer (some ⟨H.n, 0, none⟩), H.push ⟨vcells v, sz, false, false⟩)
    | none => none
  | .build zs ps => match xfill fr ps zs with
    | some cs => some (.agg cs.toArray, H)
    | none => none
  | .bslice _ sz n zs ps => match xfill fr (ps.map fun p => (p.1 * sz, sz, p.2)) (rep n zs) with
    | some cs => some (.slice (some ⟨H.n, 0, none⟩) n n, H.push ⟨cs, sz, false, false⟩)
    | none => none
  | .ld n a => match ev fr a with
    | some (.pointer (some ⟨B, o, none⟩)) => match H.get B with
      | some blk => match partV blk.cells o n with
        | some v => some (v, H)
        | none => none
      | none => none
    | _ => none
  | .st n a x => match ev fr a, ev fr x with
    | some (.pointer (some ⟨B, o, none⟩)), some v => match H.get B with
      | some blk =>
        let vs := vcells v
        bif Nat.beq vs.length n && vs.all one && !blk.ro && Nat.ble (o + n) blk.cells.length then some (undef, H.set B { blk with cells := splice blk.cells o vs }) else none
      | none => none
    | _, _ => none
  | .nilck x => match ev fr x with
    | some (.pointer (some a)) => some (.pointer (some a), H)
    | some (.func (.func f) xs ys) => some (.func (.func f) xs ys, H)
    | _ => none
  | .bin op x y => match ev fr x, ev fr y with
    | some a, some b => match xbin op a b with
      | some v => some (v, H)
      | none => none
    | _, _ => none
  | .isnil neg c x => match ev fr x with
    | some a => match xisnil c a with
      | some b => some (.bool (if neg then !b else b), H)
      | none => none
    | none => none
  | .conv k x => match ev fr x with
    | some (.int _ n) => some (.int k (k.wrap n), H)
    | _ => none
  | .s2b _ x => match ev fr x with
    | some (.string s) => some (.slice (some ⟨H.n, 0, none⟩) s.size s.size, H.push ⟨strCells s, 1, true, false⟩)
    | _ => none
  | .b2s x => match ev fr x with
    | some (.slice none _ _) => some (.string .empty, H)
    | some (.slice (some a) l c) => match src H 1 l (.slice (some a) l c) with
      | some cs => bif cs.all isU8 then some (.string ⟨(cs.map u8Of).toArray⟩, H) else none
      | none => none
    | _ => none
  | .cvs x => match ev fr x with
    | some (.slice (some ⟨B, o, none⟩) l c) => match H.get B with
      | some blk => bif blk.ro || !(Nat.blt 0 c) then none else some (.slice (some ⟨B, o, none⟩) l c, H)
      | none => none
    | _ => none
  | .fld off n x => match ev fr x with
    | some (.agg cs) => match partV cs.toList off n with
      | some v => some (v, H)
      | none => none
    | _ => none
  | .fldA off x => match ev fr x with
    | some (.pointer (some ⟨B, o, none⟩)) => some (.pointer (some ⟨B, o + off, none⟩), H)
    | _ => none
  | .idxA sz x i => match ev fr x, ev fr i with
    | some (.slice (some ⟨B, o, none⟩) l c), some (.int _ (.ofNat k)) =>
      bif Nat.blt k l && Nat.ble l c then some (.pointer (some ⟨B, o + k * sz, none⟩), H) else none
    | _, _ => none
  | .idxAA len sz x i => match ev fr x, ev fr i with
    | some (.pointer (some ⟨B, o, none⟩)), some (.int _ (.ofNat k)) =>
      bif Nat.blt k len then some (.pointer (some ⟨B, o + k * sz, none⟩), H) else none
    | _, _ => none
  | .idxV len sz n x i => match ev fr x, ev fr i with
    | some (.agg cs), some (.int _ (.ofNat k)) =>
      bif Nat.blt k len then match partV cs.toList (k * sz) n with
        | some v => some (v, H)
        | none => none
      else none
    | _, _ => none
  | .mks _ sz bytes zs l c => match ev fr l, ev fr c with
    | some (.int _ (.ofNat l)), some (.int _ (.ofNat c)) =>
      bif Nat.ble l c && Nat.ble (c * bytes) 140737488355328 && Nat.ble c 140737488355328 then some (.slice (some ⟨H.n, 0, none⟩) l c, H.push ⟨rep c zs, sz, false, false⟩) else none
    | _, _ => none
  | .slc sz x lo hi mx => match ev fr x, optEv fr lo, optEv fr hi, optEv fr mx with
    | some v, some a, some b, some c => bif isSome' mx && !(isSome' hi) then none else match xslc H sz v a b c with
      | some r => some (r, H)
      | none => none
    | _, _, _, _ => none
  | .slcA len sz x lo hi mx => match ev fr x, optEv fr lo, optEv fr hi, optEv fr mx with
    | some v, some a, some b, some c => bif isSome' mx && !(isSome' hi) then none else match xslcA H len sz v a b c with
      | some r => some (r, H)
      | none => none
    | _, _, _, _ => none
  | .len x => match ev fr x with
    | some (.slice _ l _) => some (.int .i64 (Int.ofNat l), H)
    | _ => none
  | .lens x => match ev fr x with
    | some (.string s) => some (.int .i64 (Int.ofNat s.size), H)
    | _ => none
  | .cap x => match ev fr x with
    | some (.slice none 0 0) => some (.int .i64 0, H)
    | some (.slice (some ⟨B, o, none⟩) _ c) => match H.get B with
      | some blk => bif !blk.opn || Nat.blt (o + c * blk.sz) blk.cells.length then some (.int .i64 (Int.ofNat c), H) else none
      | none => none
    | _ => none
  | .app _ sz bytes _ x y => match ev fr x, ev fr y with
    | some a, some b => xapp H sz bytes a b
    | _, _ => none
  | .appN _ sz bytes zs x y => match ev fr x, ev fr y with
    | some a, some b => xappN H sz bytes zs a b
    | _, _ => none
  | .clr sz zs x => match ev fr x with
    | some a => xclr H sz zs a
    | none => none
  | .copy sz x y => match ev fr x, ev fr y with
    | some a, some b => xcopy H sz a b
    | _, _ => none
  | .mkf fn first caps => match evs fr first, evs fr caps with
    | some a, some b => some (.func fn a.toArray b.toArray, H)
    | _, _ => none
  | .ext x i => match ev fr x with
    | some (.tuple vs) => match vs.toList[i]? with
      | some v => some (v, H)
      | none => none
    | _ => none
  | .mkI t x => match ev fr x with
    | some v => some (.iface t v, H)
    | none => none
  | .flat op ty => match xflat P fr op ty with
    | some v => some (v, H)
    | none => none
  | .call .. => none
  | .callv .. => none

/-! ### out of the program's operations -/
def okOpnd (G : Nat) : Operand → Bool
  | .const v => flatD 4 v
  | .global g => decide (g < G)
  | _ => true

def sizeAt (P : Program) (t : TypeId) : Option Nat := (P.info? t).map (·.size)

def aggSize (P : Program) (t : TypeId) : Option (Option Nat) :=
  match P.underlying t with
  | some (.struct _) | some (.array _ _) => (sizeAt P t).map some
  | some _ => some none
  | none => none

def zeroAt (P : Program) (t : TypeId) : Option (List Value) :=
  match P.info? t with
  | some i => match i.zero with
    | some z => bif (vcells z).all (flatD 4) then some (vcells z) else none
    | none => none
  | none => none

/-- the element size of a block of this type -/
def blkSz (P : Program) (t : TypeId) : Nat :=
  match P.underlying t with
  | some (.array _ e) => match sizeAt P e with
    | some (n + 1) => n + 1
    | _ => 1
  | _ => 1

def flatOps : Op → Bool
  | .binOp .. | .unOp .. | .convert .. | .index .. | .slice .. | .field .. | .build .. | .pick .. | .extract .. | .makeInterface .. | .typeAssert .. => true
  | .call { callee := .builtin b, .. } => match b with
    | .len | .max | .min => true
    | _ => false
  | _ => false

def fieldsOff (P : Program) (fs : Array Field) : List (Nat × Operand) → Option (List (Nat × Nat × Operand))
  | [] => some []
  | (i, x) :: ps => match fs[i]? with
    | some f => match sizeAt P f.type, fieldsOff P fs ps with
      | some n, some r => some ((f.offset, n, x) :: r)
      | _, _ => none
    | none => none

/-- a nil of the type -/
def nilFits (P : Program) (t : TypeId) (c : Value) : Bool :=
  match P.underlying t, c with
  | some (.pointer _), .pointer none | some (.slice _), .slice none 0 0 | some (.map _ _), .map none | some (.func _ _ _), .nilFunc | some (.interface _), .nilIface => true
  | _, _ => false

def nilOf (P : Program) (t : TypeId) : Operand → Option Value
  | .const c => bif nilFits P t c then some c else none
  | _ => none

def isByte (P : Program) (t : TypeId) : Bool :=
  match P.underlying t with
  | some (.int .u8) => true
  | _ => false

def intKindOf (P : Program) (t : TypeId) : Option IntKind :=
  match P.underlying t with
  | some (.int k) => some k
  | _ => none

def intOrStr (P : Program) (t : TypeId) : Bool :=
  match P.underlying t with
  | some (.int _) | some .string => true
  | _ => false

def cRaw (P : Program) (o : Oper) : Option XOp :=
  match o.op with
  | .move x | .assign x => some (.mov x)
  | .pick c a b => some (.pick c a b)
  | .alloc t => match zeroAt P t with
    | some zs => some (.new t (blkSz P t) zs)
    | none => none
  | .box t x => some (.box t (blkSz P t) x)
  | .build t ps => match P.underlying t with
    | some (.struct fs) => match zeroAt P t, fieldsOff P fs ps.toList with
      | some zs, some l => bif fs.toList.all (fun f => (sizeAt P f.type).isSome) then some (.build zs l) else none
      | _, _ => none
    | some (.array _ e) => match zeroAt P t, sizeAt P e with
      | some zs, some n => some (.build zs (ps.toList.map fun p => (p.1 * n, n, p.2)))
      | _, _ => none
    | _ => none
  | .buildSlice t n ps => match P.underlying t with
    | some (.slice e) => match zeroAt P e, sizeAt P e with
      | some zs, some sz => bif Nat.ble (n * sz) 16777216 && Nat.beq zs.length sz && Nat.ble 1 sz then some (.bslice e sz n zs ps.toList) else none
      | _, _ => none
    | _ => none
  | .load t a => match aggSize P t with
    | some n => some (.ld n a)
    | none => none
  | .store t a x => match sizeAt P t with
    | some n => some (.st n a x)
    | none => none
  | .nilCheck x => some (.nilck x)
  | .binOp op t x y ty => match op with
    | .eql => match nilOf P t y with
      | some c => some (.isnil false c x)
      | none => bif intOrStr P t then some (.bin .eql x y) else some (.flat (.binOp op t x y ty) o.type)
    | .neq => match nilOf P t y with
      | some c => some (.isnil true c x)
      | none => bif intOrStr P t then some (.bin .neq x y) else some (.flat (.binOp op t x y ty) o.type)
    | op => some (.bin op x y)
  | .convert s d x => match P.underlying s, P.underlying d with
    | some (.int _), some (.int k) => some (.conv k x)
    | some .string, some (.slice e) => bif isByte P e then some (.s2b e x) else none
    | some (.slice e), some .string => bif isByte P e then some (.b2s x) else none
    | some (.slice _), some (.slice e) => bif Nat.beq s d && isByte P e then some (.cvs x) else none
    | _, _ => some (.flat (.convert s d x) o.type)
  | .field t x i => match P.underlying t with
    | some (.struct fs) => match fs[i]? with
      | some f => match aggSize P f.type with
        | some n => some (.fld f.offset n x)
        | none => none
      | none => none
    | _ => none
  | .fieldAddr t x i => match P.underlying t with
    | some (.struct fs) => match fs[i]? with
      | some f => match sizeAt P f.type with
        | some (_ + 1) => some (.fldA f.offset x)
        | _ => none
      | none => none
    | _ => none
  | .indexAddr t x i => match P.underlying t with
    | some (.slice e) => match sizeAt P e with
      | some sz => some (.idxA sz x i)
      | none => none
    | some (.array n e) => match sizeAt P e with
      | some sz => some (.idxAA n sz x i)
      | none => none
    | _ => none
  | .index t x i => match P.underlying t with
    | some (.array n e) => match sizeAt P e, aggSize P e with
      | some sz, some k => some (.idxV n sz k x i)
      | _, _ => none
    | _ => some (.flat (.index t x i) o.type)
  | .makeSlice t l c => match P.underlying t with
    | some (.slice e) => match zeroAt P e, P.info? e with
      | some zs, some i => bif Nat.beq zs.length i.size && Nat.ble 1 i.size then some (.mks e i.size i.bytes zs l c) else none
      | _, _ => none
    | _ => none
  | .slice t x lo hi mx => match P.underlying t with
    | some .string => some (.flat (.slice t x lo hi mx) o.type)
    | some (.slice e) => match sizeAt P e with
      | some sz => some (.slc sz x lo hi mx)
      | none => none
    | some (.array n e) => match sizeAt P e with
      | some sz => some (.slcA n sz x lo hi mx)
      | none => none
    | _ => none
  | .makeFunc fn first caps => some (.mkf fn first.toList caps.toList)
  | .extract x i => some (.ext x i)
  | .makeInterface t x => match P.underlying t with
    | some (.interface _) => none
    | some _ => some (.mkI t x)
    | none => none
  | .unOp op t x => some (.flat (.unOp op t x) o.type)
  | .typeAssert x s t c => some (.flat (.typeAssert x s t c) o.type)
  | .call c => match c.callee with
    | .value (.func f) => some (.call f c.args.toList)
    | .value x => some (.callv x c.args.toList)
    | .invoke .. => none
    | .builtin b => match b with
      | .len => match c.argTypes[0]?, c.args.toList with
        | some t, [x] => match P.underlying t with
          | some (.slice _) => some (.len x)
          | some .string => some (.lens x)
          | _ => some (.flat (.call c) o.type)
        | _, _ => none
      | .cap => match c.argTypes[0]?, c.args.toList with
        | some t, [x] => match P.underlying t with
          | some (.slice _) => some (.cap x)
          | _ => none
        | _, _ => none
      | .append => match c.argTypes[0]?, c.argTypes[1]?, c.args.toList with
        | some t, some u, [x, y] => match P.underlying t with
          | some (.slice e) => match zeroAt P e, P.info? e, P.underlying u with
            | some zs, some i, some (.int _) => bif Nat.beq zs.length i.size && Nat.ble 1 i.size then some (.appN e i.size i.bytes zs x y) else none
            | some zs, some i, some _ => bif Nat.beq zs.length i.size && Nat.ble 1 i.size then some (.app e i.size i.bytes zs x y) else none
            | _, _, _ => none
          | _ => none
        | _, _, _ => none
      | .copy => match c.argTypes[0]?, c.args.toList with
        | some t, [x, y] => match P.underlying t with
          | some (.slice e) => match sizeAt P e with
            | some sz => some (.copy sz x y)
            | none => none
          | _ => none
        | _, _ => none
      | .clear => match c.argTypes[0]?, c.args.toList with
        | some t, [x] => match P.underlying t with
          | some (.slice e) => match zeroAt P e, sizeAt P e with
            | some zs, some sz => bif Nat.beq zs.length sz then some (.clr sz zs x) else none
            | _, _ => none
          | _ => none
        | _, _ => none
      | .max | .min => some (.flat (.call c) o.type)
      | _ => none
  | _ => none

def cOp (P : Program) (o : Oper) : Option XOp :=
  bif o.op.operands.all (okOpnd P.globals.size) then cRaw P o else none

end Go.Det
