/- An abstract interpreter of the program's code, and that what it says holds: part CoreA. -/
import Derived.Orders
import Derived.Below
import Derived.Laws.AppendOwn
import Derived.Laws.CopyRow
import Derived.Laws.Rows
import Derived.Maps.AppendAt
import Derived.KernelRfl
import Derived.Laws.OwnMore
import Derived.Laws.MakeOwn
import Derived.Laws.StructEq
/- Abstract values, what they say of memory, and the abstract step of an operation: definitions alone. -/
set_option linter.unusedVariables false
namespace Go.Abs
open Go

/-! ### values -/
inductive Dat where
  | bool (b : Bool)
  | int (k : IntKind) (n : Int)
  | str (s : ByteArray)
  | agg (cs : List Dat)
  | sl (xs : List Dat)
  deriving Inhabited

def Dat.cells : Dat → List Dat
  | .agg cs => cs
  | d => [d]
def Dat.flat : Dat → Bool
  | .agg _ => false
  | _ => true

inductive PVal where
  | top
  | undef
  | dat (d : Dat)
  | nilS
  | ow (k e z : Nat) (xs : List Dat)
  | cptr (cs : List PVal)
  | bptr (t off : Nat)
  | msl (t len : Nat)
  | fn (f : Nat) (caps : List PVal)
  | agg (cs : List PVal)
  | tup (vs : List PVal)
  | fsl (xs : List PVal)
  | yld (l : Nat)
  deriving Inhabited

def PVal.flat : PVal → Bool
  | .dat d => d.flat
  | .nilS | .ow _ _ _ _ | .cptr _ | .bptr _ _ | .msl _ _ | .fn _ _ | .fsl _ | .yld _ => true
  | _ => false

/-- The cells of a value. -/
def PVal.cells : PVal → List PVal
  | .dat d => d.cells.map .dat
  | .agg cs => cs
  | p => [p]

def datOf : PVal → Option Dat
  | .dat d => some d
  | .nilS => some (.sl [])
  | .ow _ _ _ xs => some (.sl xs)
  | _ => none
def datsOf : List PVal → Option (List Dat)
  | [] => some []
  | p :: ps => match datOf p, datsOf ps with
    | some d, some ds => some (d :: ds)
    | _, _ => none
def flatsOf : List PVal → Option (List Dat)
  | [] => some []
  | p :: ps => match datOf p, flatsOf ps with
    | some d, some ds => if d.flat then some (d :: ds) else none
    | _, _ => none
def mkAgg (cs : List PVal) : PVal := match flatsOf cs with
  | some ds => .dat (.agg ds)
  | none => .agg cs

mutual
/-- Nothing speaks of the box d any more; a row d is only read from here on. -/
def PVal.kill (d : Nat) : PVal → PVal
  | .bptr t off => if t = d then .top else .bptr t off
  | .msl t n => if t = d then .top else .msl t n
  | .ow k e z xs => if k = d then .dat (.sl xs) else .ow k e z xs
  | .cptr cs => .cptr (kills d cs)
  | .fn f cs => .fn f (kills d cs)
  | .agg cs => .agg (kills d cs)
  | .tup cs => .tup (kills d cs)
  | .fsl cs => .fsl (kills d cs)
  | .yld l => .yld l
  | .top => .top
  | .undef => .undef
  | .dat x => .dat x
  | .nilS => .nilS
def kills (d : Nat) : List PVal → List PVal
  | [] => []
  | p :: ps => p.kill d :: kills d ps
end

def mapO (f : PVal → Option PVal) : List PVal → Option (List PVal)
  | [] => some []
  | p :: ps => match f p, mapO f ps with
    | some q, some qs => some (q :: qs)
    | _, _ => none

/-- A value without the function's own boxes: their contents stand in their place. -/
def closeP (h : Nat → Option (List PVal)) : Nat → PVal → Option PVal
  | 0, _ => none
  | n + 1, .dat d => some (.dat d)
  | n + 1, .nilS => some (.dat (.sl []))
  | n + 1, .ow _ _ _ xs => some (.dat (.sl xs))
  | n + 1, .cptr cs => (mapO (closeP h n) cs).map .cptr
  | n + 1, .bptr t off => match h t with
    | some cs => (mapO (closeP h n) (cs.drop off)).map .cptr
    | none => none
  | n + 1, .fn f cs => (mapO (closeP h n) cs).map (.fn f)
  | n + 1, .agg cs => (mapO (closeP h n) cs).map mkAgg
  | n + 1, .tup cs => (mapO (closeP h n) cs).map .tup
  | n + 1, .fsl cs => (mapO (closeP h n) cs).map .fsl
  | n + 1, .yld l => some (.yld l)
  | n + 1, .undef => some .undef
  | n + 1, .top => some .top
  | n + 1, .msl _ _ => none

/-- The same at a return: an array of the function's own is a list from here on. -/
def closeR (h : Nat → Option (List PVal)) (p : PVal) : Option PVal := match p with
  | .msl t n => match h t with
    | some cs => if cs.length = n then (datsOf cs).map fun ds => .dat (.sl ds) else none
    | none => none
  | p => closeP h 9 p

/-! ### the state -/
structure ASt where
  t : Nat → PVal
  h : Nat → Option (List PVal)

def upd {α : Type} (f : Nat → α) (i : Nat) (x : α) : Nat → α := fun j => if j = i then x else f j
def ASt.put (s : ASt) (d : Option Nat) (p : PVal) : ASt := match d with
  | some d => { s with t := upd s.t d p }
  | none => s
def ASt.kill (s : ASt) (d : Nat) : ASt := { t := fun i => (s.t i).kill d, h := fun u => if u = d then none else (s.h u).map (kills d) }

/-- A constant. -/
def constC : Value → PVal
  | .bool b => .dat (.bool b)
  | .int k n => .dat (.int k n)
  | .string s => .dat (.str s)
  | .slice none 0 0 => .nilS
  | _ => .top
def constP : Value → PVal
  | .bool b => .dat (.bool b)
  | .int k n => .dat (.int k n)
  | .string s => .dat (.str s)
  | .slice none 0 0 => .nilS
  | .agg cs => match flatsOf (cs.toList.map constC) with
    | some ds => .dat (.agg ds)
    | none => .top
  | .tuple vs => if vs.isEmpty then .undef else .top
  | _ => .top

def ASt.eval (s : ASt) : Operand → PVal
  | .tmp t => s.t t
  | .const v => constP v
  | .func f => .fn f []
  | .global _ => .top

/-! ### types -/
inductive TD where
  | bool | int (k : IntKind) | string | slice (e : Nat) | struct (fs : List (Nat × Nat)) | other
structure TInfo where
  d : TD
  size : Nat
  bytes : Nat
  zero : List PVal

def TD.ofDesc : TypeDesc → TD
  | .bool => .bool
  | .int k => .int k
  | .string => .string
  | .slice e => .slice e
  | .struct fs => if fs.toList.any (fun f => f.name == "_") then .other else .struct (fs.toList.map fun f => (f.type, f.offset))
  | _ => .other
def TD.isAgg : TD → Option Bool
  | .struct _ => some true
  | .bool | .int _ | .string | .slice _ => some false
  | .other => none

/-- What is known of type t. -/
def tinf (P : Program) (t : Nat) : Option TInfo := match P.info? t, P.underlying t with
  | some i, some d => match i.zero with
    | some z => some ⟨TD.ofDesc d, i.size, i.bytes, z.cells.toList.map constC⟩
    | none => none
  | _, _ => none

/-- How many cells a load of type t takes: none: one cell, as it is. -/
def aggSize (P : Program) (t : Nat) : Option (Option Nat) := match P.underlying t with
  | some (.struct _) | some (.array _ _) => (P.info? t).map fun i => some i.size
  | some _ => some none
  | none => none

/-- How many cells a value of type t has. -/
def szOf (P : Program) (t : Nat) : Option Nat := (P.info? t).map (·.size)

/-! ### operations -/
inductive Res where
  | val (p : PVal)
  | put (t : Nat) (cs : List PVal)
  | newB (cs : List PVal)
  | newD (d : Nat) (cs : List PVal)
  | newM (nm : Nat) (cs : List PVal)
  | app (k : Option Nat) (e z : Nat) (xs : List Dat)

def ldAt (ag : Option Nat) (cs : List PVal) (off : Nat) : Option PVal := match ag with
  | none => cs[off]?
  | some n => if off + n ≤ cs.length then some (mkAgg ((cs.drop off).take n)) else none

def stAt (cs : List PVal) (off : Nat) (vs : List PVal) : Option (List PVal) :=
  if off + vs.length ≤ cs.length then some (cs.take off ++ vs ++ cs.drop (off + vs.length)) else none

def intBin (op : BinOp) (k : IntKind) (x y : Int) : Option PVal := match op with
  | .add => some (.dat (.int k (k.wrap (x + y))))
  | .sub => some (.dat (.int k (k.wrap (x - y))))
  | .mul => some (.dat (.int k (k.wrap (x * y))))
  | .quo => if y = 0 then none else some (.dat (.int k (k.wrap (x.tdiv y))))
  | .rem => if y = 0 then none else some (.dat (.int k (x.tmod y)))
  | .and => some (.dat (.int k (k.wrap ((BitVec.ofInt k.bits x &&& BitVec.ofInt k.bits y).toNat : Int))))
  | .or => some (.dat (.int k (k.wrap ((BitVec.ofInt k.bits x ||| BitVec.ofInt k.bits y).toNat : Int))))
  | .eql => some (.dat (.bool (decide (x = y))))
  | .neq => some (.dat (.bool (!decide (x = y))))
  | .lss => some (.dat (.bool (x < y)))
  | .leq => some (.dat (.bool (x ≤ y)))
  | .gtr => some (.dat (.bool (x > y)))
  | .geq => some (.dat (.bool (x ≥ y)))
  | _ => none
def strBin (op : BinOp) (x y : ByteArray) : Option PVal := match op with
  | .eql => some (.dat (.bool (decide (x = y))))
  | .neq => some (.dat (.bool (!decide (x = y))))
  | .lss => some (.dat (.bool (Op.bytesLess x.toList y.toList)))
  | .leq => some (.dat (.bool (Op.bytesLess x.toList y.toList || decide (x = y))))
  | .gtr => some (.dat (.bool (!(Op.bytesLess x.toList y.toList || decide (x = y)))))
  | .geq => some (.dat (.bool (!Op.bytesLess x.toList y.toList)))
  | _ => none
/-- '==' of two scalars, as the model compares them inside a struct. -/
def eqD : Dat → Dat → Option Bool
  | .int k x, .int k' y => if k = k' then some (decide (x = y)) else none
  | .str x, .str y => some (decide (x = y))
  | .bool x, .bool y => some (x == y)
  | _, _ => none
def eqDs : List Dat → List Dat → Option Bool
  | [], [] => some true
  | x :: xs, y :: ys => match eqD x y, eqDs xs ys with
    | some a, some b => some (a && b)
    | _, _ => none
  | _, _ => none
/-- Kinds of scalars. -/
inductive SK where
  | b | i (k : IntKind) | s
def skOf (P : Program) (t : Nat) : Option SK := match P.underlying t with
  | some .bool => some .b
  | some (.int k) => some (.i k)
  | some .string => some .s
  | _ => none
def SK.ok : SK → Dat → Bool
  | .b, .bool _ => true
  | .i k, .int k' _ => k == k'
  | .s, .str _ => true
  | _, _ => false
def skAll : List SK → List Dat → Bool
  | [], [] => true
  | k :: ks, d :: ds => k.ok d && skAll ks ds
  | _, _ => false
def sksOf (P : Program) : Nat → List Field → Option (List SK)
  | _, [] => some []
  | i, f :: fs => if f.name = "_" ∨ f.offset ≠ i then none else match skOf P f.type, sksOf P (i + 1) fs with
    | some k, some ks => some (k :: ks)
    | _, _ => none
/-- A struct of scalars that may be compared. -/
def eqOk (P : Program) (t : Nat) : Option (List SK) := match P.underlying t with
  | some (.struct fs) => if P.stoodInHeld t || P.eqGuardType P.depth t then none else sksOf P 0 fs.toList
  | _ => none

/-- A shift to the left. -/
def shlA (k : IntKind) (x y : Int) : Option PVal := if 0 ≤ y then some (.dat (.int k (k.wrap (x * 2 ^ min y.toNat k.bits)))) else none
def semBin (P : Program) (op : BinOp) (xt : Nat) (a b : PVal) : Option PVal := match a, b with
  | .dat (.int k x), .dat (.int k' y) => if op = .shl then shlA k x y else if k = k' then intBin op k x y else none
  | .dat (.str x), .dat (.str y) => strBin op x y
  | .dat (.bool x), .dat (.bool y) => match tinf P xt, op with
    | some ⟨.bool, _, _, _⟩, .eql => some (.dat (.bool (x == y)))
    | some ⟨.bool, _, _, _⟩, .neq => some (.dat (.bool (!(x == y))))
    | _, _ => none
  | .dat (.agg xs), .dat (.agg ys) => match eqOk P xt with
    | some ks => if skAll ks xs && skAll ks ys then match eqDs xs ys, op with
        | some e, .eql => some (.dat (.bool e))
        | some e, .neq => some (.dat (.bool (!e)))
        | _, _ => none
      else none
    | none => none
  | _, _ => none

def semUn (op : UnOp) (a : PVal) : Option PVal := match op, a with
  | .not, .dat (.bool b) => some (.dat (.bool (!b)))
  | .neg, .dat (.int k n) => some (.dat (.int k (k.wrap (0 - n))))
  | _, _ => none

/-- The list that a slice's value reads as. -/
def listOf : PVal → Option (List Dat)
  | .dat (.sl xs) => some xs
  | .nilS => some []
  | .ow _ _ _ xs => some xs
  | _ => none

def semIdx (sz : Nat) (x i : PVal) : Option PVal := match i with
  | .dat (.int _ i) => match x with
    | .fsl xs => if 0 ≤ i ∧ sz = 1 then match xs[i.toNat]? with
        | some p => some (.cptr [p])
        | none => none
      else none
    | .msl t n => if 0 ≤ i ∧ i < n ∧ sz = 1 then some (.bptr t i.toNat) else none
    | x => match listOf x with
      | some xs => if 0 ≤ i then match xs[i.toNat]? with
          | some d => if d.cells.length = sz then some (.cptr (d.cells.map .dat)) else none
          | none => none
        else none
      | none => none
  | _ => none

def semLen : PVal → Option PVal
  | .dat (.str s) => some (.dat (.int .i64 s.size))
  | .fsl xs => some (.dat (.int .i64 xs.length))
  | .msl _ n => some (.dat (.int .i64 n))
  | x => (listOf x).map fun xs => .dat (.int .i64 xs.length)

def intOf? : PVal → Option Int
  | .dat (.int _ n) => some n
  | _ => none

/-- A cut of a list: low and high, each where it is given. -/
def semSlice (sz : Nat) (x : PVal) (lo hi : Option PVal) : Option PVal := match listOf x with
  | some xs =>
    let l : Option Int := match lo with | none => some 0 | some p => intOf? p
    let h : Option Int := match hi with | none => some xs.length | some p => intOf? p
    match l, h with
    | some l, some h => if 0 ≤ l ∧ l ≤ h ∧ h ≤ xs.length ∧ (l = 0 ∨ xs.all (fun d => d.cells.length == sz) = true) then some (.dat (.sl ((xs.take h.toNat).drop l.toNat))) else none
    | _, _ => none
  | none => none

def fillA (places : List (Nat × Nat)) (cells : List PVal) : List (Nat × PVal) → Option (List PVal)
  | [] => some cells
  | (i, p) :: rest => match places[i]? with
    | some (off, size) => if p.cells.length = size ∧ off + size ≤ cells.length ∧ p.cells.all PVal.flat = true then fillA places (cells.take off ++ p.cells ++ cells.drop (off + size)) rest else none
    | none => none

def sizesOf (P : Program) : List (Nat × Nat) → Option (List (Nat × Nat))
  | [] => some []
  | (t, o) :: fs => match P.info? t, sizesOf P fs with
    | some i, some r => some ((o, i.size) :: r)
    | _, _ => none

def inOrder : Nat → List (Nat × PVal) → Option (List PVal)
  | _, [] => some []
  | i, (j, p) :: rest => if i = j then (inOrder (i + 1) rest).map (p :: ·) else none

/-- A type of functions. -/
def nilFn (P : Program) (e : Nat) : Bool := match P.info? e with
  | some i => match i.zero with
    | some .nilFunc => true
    | _ => false
  | none => false

/-- The boxes that are made in a region whose order is drawn: (region + 1) * 1000000 + temporary. -/
def freshOf (mb : List Nat) (id : Nat) : List Nat := mb.filterMap fun m => if m / 1000000 = id + 1 then some (m % 1000000) else none
def freshIn (mb : List Nat) (d : Nat) : Bool := mb.any fun m => decide (1000000 ≤ m) && decide (m < 1000000000000) && decide (m % 1000000 = d)

def natOf : PVal → Nat
  | .dat (.int _ n) => n.toNat
  | _ => 0
/-- The name of an array that is made: its temporary, or, by 1000000000000 + index * 1000000 + temporary, 100000 + what the temporary 'index' holds: so that the arrays of several rounds stay apart. -/
def nameOf (mb : List Nat) (d : Nat) (s : ASt) : Nat := match mb.find? fun m => decide (1000000000000 ≤ m) && decide (m % 1000000 = d) with
  | some m => 100000 + natOf (s.t (m / 1000000 % 1000000))
  | none => d

/-- An operation that is no call of a function. mb: the boxes (by their temporary) that are written. -/
def sem (P : Program) (mb : List Nat) (dst : Option Nat) (s : ASt) (op : Op) : Option Res := match op with
  | .move x | .assign x => some (.val (s.eval x))
  | .pick c a b => match s.eval c with
    | .dat (.bool c) => some (.val (if c then s.eval a else s.eval b))
    | _ => none
  | .alloc e => match tinf P e with
    | some i => if i.zero.all PVal.flat then (if freshIn mb (dst.getD 0) then some (.newD (dst.getD 0) i.zero) else some (.newB i.zero)) else if nilFn P e then some (.newB [.top]) else none
    | none => none
  | .box e x => match tinf P e with
    | some i => if (s.eval x).cells.length = i.size ∧ (s.eval x).cells.all PVal.flat = true then
        (if mb.contains (dst.getD 0) then some (.newB (s.eval x).cells) else some (.val (.cptr (s.eval x).cells)))
      else none
    | none => none
  | .build t parts => match tinf P t with
    | some ⟨.struct fs, _, _, z⟩ => match sizesOf P fs with
      | some places => if z.all PVal.flat then (fillA places z (parts.toList.map fun (i, x) => (i, s.eval x))).map fun cs => .val (mkAgg cs) else none
      | none => none
    | _ => none
  | .buildSlice t len parts => match tinf P t with
    | some ⟨.slice e, _, _, _⟩ => match tinf P e with
      | some i => match inOrder 0 (parts.toList.map fun (i, x) => (i, s.eval x)) with
        | some ps => if ps.length = len ∧ 0 < len ∧ len * i.size ≤ 16777216 ∧ i.zero.length = i.size ∧ 0 < i.size ∧ ps.all (fun p => p.cells.length == i.size && p.cells.all PVal.flat) = true then
            match datsOf ps with
            | some ds => some (.val (.dat (.sl ds)))
            | none => if i.size = 1 ∧ ps.all PVal.flat = true then some (.val (.fsl ps)) else none
          else none
        | none => none
      | none => none
    | _ => none
  | .load t a => match aggSize P t with
    | some ag => match s.eval a with
      | .cptr cs => (ldAt ag cs 0).map .val
      | .bptr b off => match s.h b with
        | some cs => (ldAt ag cs off).map .val
        | none => none
      | _ => none
    | none => none
  | .store t a v => match s.eval a with
    | .bptr b off => match s.h b, szOf P t with
      | some cs, some n =>
        if (s.eval v).cells.length = n ∧ (s.eval v).cells.all PVal.flat = true then (stAt cs off (s.eval v).cells).map (.put b) else none
      | _, _ => none
    | _ => none
  | .nilCheck x => match s.eval x with
    | .bptr t off => some (.val (.bptr t off))
    | .cptr cs => some (.val (.cptr cs))
    | _ => none
  | .binOp op xt x y _ => (semBin P op xt (s.eval x) (s.eval y)).map .val
  | .unOp op _ x => (semUn op (s.eval x)).map .val
  | .convert src dst x => match tinf P src, tinf P dst, s.eval x with
    | some ⟨.int _, _, _, _⟩, some ⟨.int k, _, _, _⟩, .dat (.int _ n) => some (.val (.dat (.int k (k.wrap n))))
    | _, _, _ => none
  | .makeFunc (.func f) first captured => if first.isEmpty then some (.val (.fn f (captured.toList.map s.eval))) else none
  | .makeSlice t l c => match tinf P t with
    | some ⟨.slice e, _, _, _⟩ => match tinf P e, s.eval l, s.eval c with
      | some i, .dat (.int .i64 n), .dat (.int .i64 m) => match i.zero with
        | [z] => if 0 ≤ n ∧ n = m ∧ i.bytes * n ≤ 281474976710656 ∧ n ≤ 9223372036854775807 ∧ i.size = 1 ∧ z.flat = true then some (.newM (nameOf mb (dst.getD 0) s) (List.replicate n.toNat z)) else none
        | _ => none
      | _, _, _ => none
    | _ => none
  | .slice t x lo hi none => match tinf P t with
    | some ⟨.slice e, _, _, _⟩ => match tinf P e with
      | some i => (semSlice i.size (s.eval x) (lo.map s.eval) (hi.map s.eval)).map .val
      | none => none
    | _ => none
  | .fieldAddr t x f => match tinf P t with
    | some ⟨.struct fs, _, _, _⟩ => match fs[f]? with
      | some (ft, o) => match tinf P ft with
        | some j => if 0 < j.size then match s.eval x with
            | .cptr cs => some (.val (.cptr (cs.drop o)))
            | .bptr b off => some (.val (.bptr b (off + o)))
            | _ => none
          else none
        | none => none
      | none => none
    | _ => none
  | .field t x f => match tinf P t with
    | some ⟨.struct fs, _, _, _⟩ => match fs[f]? with
      | some (ft, o) => match aggSize P ft with
        | some ag => match s.eval x with
          | .dat (.agg cs) => (ldAt ag (cs.map .dat) o).map .val
          | .agg cs => (ldAt ag cs o).map .val
          | _ => none
        | none => none
      | none => none
    | _ => none
  | .indexAddr t x i => match tinf P t with
    | some ⟨.slice e, _, _, _⟩ => match tinf P e with
      | some j => (semIdx j.size (s.eval x) (s.eval i)).map .val
      | none => none
    | _ => none
  | .index t x i => match tinf P t, s.eval x, s.eval i with
    | some ⟨.string, _, _, _⟩, .dat (.str b), .dat (.int _ n) => if 0 ≤ n then match b[n.toNat]? with
        | some c => some (.val (.dat (.int .u8 c.toNat)))
        | none => none
      else none
    | _, _, _ => none
  | .extract x i => match s.eval x with
    | .tup vs => (vs[i]?).map .val
    | _ => none
  | .call ⟨.builtin .len, args, ts⟩ => match args.toList, ts.toList with
    | [x], [t] => match tinf P t with
      | some ⟨.string, _, _, _⟩ => match s.eval x with
        | .dat (.str b) => some (.val (.dat (.int .i64 b.size)))
        | _ => none
      | some ⟨.slice _, _, _, _⟩ => match s.eval x with
        | .dat (.str _) => none
        | p => (semLen p).map .val
      | _ => none
    | _, _ => none
  | .call ⟨.builtin .append, args, ts⟩ => match args.toList, ts.toList with
    | [x, y], [t, t'] => if t = t' then match tinf P t with
        | some ⟨.slice e, _, _, _⟩ => match tinf P e, listOf (s.eval y) with
          | some i, some ys => if ys.all (fun d => d.cells.length == i.size && d.cells.all Dat.flat) = true ∧ 0 < i.size ∧ i.zero.length = i.size then
              match s.eval x with
              | .nilS => if ys.length * i.bytes ≤ 140737488355328 ∧ ys.length ≤ 9223372036854775807 then some (.app none e i.size ys) else none
              | .ow k e' z xs => if e' = e ∧ z = i.size ∧ (xs.length + ys.length) * i.bytes ≤ 140737488355328 ∧ xs.length + ys.length ≤ 9223372036854775807 then some (.app (some k) e z (xs ++ ys)) else none
              | _ => none
            else none
          | _, _ => none
        | _ => none
      else none
    | _, _ => none
  | _ => none

def applyR (dst : Option Nat) (s : ASt) : Res → Option ASt
  | .val p => some (s.put dst p)
  | .put t cs => some (({ s with h := upd s.h t (some cs) } : ASt).put dst .undef)
  | .newB cs => match dst with
    | some d => let s1 := s.kill d
      some { t := upd s1.t d (.bptr d 0), h := upd s1.h d (some (kills d cs)) }
    | none => none
  | .newD d cs => match dst with
    | some d' => if d = d' then match s.h d with
        | none => some (({ s with h := upd s.h d (some cs) } : ASt).put dst (.bptr d 0))
        | some _ => none
      else none
    | none => none
  | .newM nm cs => match dst with
    | some d => let s1 := s.kill nm
      some { t := upd s1.t d (.msl nm cs.length), h := upd s1.h nm (some (kills nm cs)) }
    | none => none
  | .app k e z xs => match dst with
    | some d => let s1 := match k with | some k => s.kill k | none => s
      let s2 := s1.kill d
      some { s2 with t := upd s2.t d (.ow d e z xs) }
    | none => none

/-! ### access: what an operation does to boxes -/
inductive Acc where
  | no | ld (t : Nat) | st (t : Nat) | nw (t : Nat) | call | callD | bad
  deriving DecidableEq

def accOf (s : ASt) (op : Op) : Res → Acc
  | .val _ => match op with
    | .load _ a => match s.eval a with
      | .bptr b _ => .ld b
      | _ => .no
    | .box _ _ => .bad
    | _ => .no
  | .put t _ => .st t
  | .newD t _ => .nw t
  | _ => .bad
/-- The box that is written; the box whose content matters. -/
def Acc.wr : Acc → Option Nat
  | .st t | .nw t => some t
  | _ => none
def Acc.rd : Acc → Option Nat
  | .ld t | .st t | .nw t => some t
  | _ => none
def callAcc : Bool → Acc
  | true => .callD
  | false => .call
/-- The boxes ds are forgotten. -/
def ASt.killL : List Nat → ASt → ASt
  | [], s => s
  | d :: ds, s => ASt.killL ds (s.kill d)

end Go.Abs

/- What abstract values say of memory: the relation, and how it is kept. -/
set_option linter.unusedVariables false
namespace Go.Abs
open Go Go.RowKit

abbrev Mem := Addr → Option Value

inductive RelD (Φ : Mem) : Dat → Value → Prop
  | bool (b : Bool) : RelD Φ (.bool b) (.bool b)
  | int (k : IntKind) (n : Int) : RelD Φ (.int k n) (.int k n)
  | str (s : ByteArray) : RelD Φ (.str s) (.string s)
  | agg (cs : List Dat) (vs : List Value) (hl : vs.length = cs.length) (hf : ∀ c ∈ cs, c.flat = true)
      (hr : ∀ (i : Nat) (c : Dat) (v : Value), cs[i]? = some c → vs[i]? = some v → RelD Φ c v) : RelD Φ (.agg cs) (.agg vs.toArray)
  | sl (xs : List Dat) (A : Option Addr) (ad : Addr) (c sz : Nat) (vals : Nat → Nat → Value) (hc : xs.length ≤ c) (hm : xs.length ≤ maxLen)
      (hA : 0 < xs.length → A = some ad) (hsz : ∀ d ∈ xs, d.cells.length = sz) (hf : ∀ d ∈ xs, ∀ c ∈ d.cells, c.flat = true)
      (hΦ : ∀ j i, j < xs.length → i < sz → Φ (ad.add (j * sz + i)) = some (vals j i))
      (hr : ∀ (j i : Nat) (d c : Dat), xs[j]? = some d → d.cells[i]? = some c → RelD Φ c (vals j i)) : RelD Φ (.sl xs) (.slice A xs.length c)

structure Env where
  Φ : Mem
  Ψ : Mem
  β : Nat → Option Nat
  γ : Nat → Option (Value × Nat × Nat)

inductive RelP (E : Env) : PVal → Value → Prop
  | top (v : Value) : RelP E .top v
  | undef : RelP E .undef Go.undef
  | dat (d : Dat) (v : Value) (h : RelD E.Φ d v) : RelP E (.dat d) v
  | nilS : RelP E .nilS (.slice none 0 0)
  | ow (k e z : Nat) (xs : List Dat) (v : Value) (h : RelD E.Φ (.sl xs) v) (hk : E.γ k = some (v, e, z)) (hz : ∀ d ∈ xs, d.cells.length = z) : RelP E (.ow k e z xs) v
  | cptr (cs : List PVal) (ad : Addr) (vals : Nat → Value) (hΨ : ∀ i, i < cs.length → E.Ψ (ad.add i) = some (vals i)) (hf : ∀ p ∈ cs, p.flat = true ∨ p = .top)
      (h1 : ∀ i, i < cs.length → (vals i).oneCell' = true)
      (hr : ∀ (i : Nat) (p : PVal), cs[i]? = some p → RelP E p (vals i)) : RelP E (.cptr cs) (.pointer (some ad))
  | bptr (t off b : Nat) (h : E.β t = some b) : RelP E (.bptr t off) (.pointer (some ⟨b, off, none⟩))
  | msl (t n b c : Nat) (h : E.β t = some b) (hc : n ≤ c) (hm : n ≤ maxLen) : RelP E (.msl t n) (.slice (some ⟨b, 0, none⟩) n c)
  | fn (f : Nat) (caps : List PVal) (vs : List Value) (hl : vs.length = caps.length) (hr : ∀ (i : Nat) (p : PVal) (v : Value), caps[i]? = some p → vs[i]? = some v → RelP E p v) :
      RelP E (.fn f caps) (.func (.func f) #[] vs.toArray)
  | yld (l : Nat) : RelP E (.yld l) (.func (.yield l) #[] #[])
  | agg (cs : List PVal) (vs : List Value) (hl : vs.length = cs.length) (h1 : ∀ v ∈ vs, v.oneCell' = true) (hf : ∀ p ∈ cs, p.flat = true ∨ p = .top)
      (hr : ∀ (i : Nat) (p : PVal) (v : Value), cs[i]? = some p → vs[i]? = some v → RelP E p v) : RelP E (.agg cs) (.agg vs.toArray)
  | tup (cs : List PVal) (vs : List Value) (hl : vs.length = cs.length) (hr : ∀ (i : Nat) (p : PVal) (v : Value), cs[i]? = some p → vs[i]? = some v → RelP E p v) : RelP E (.tup cs) (.tuple vs.toArray)
  | fsl (xs : List PVal) (A : Option Addr) (ad : Addr) (c : Nat) (vals : Nat → Value) (hc : xs.length ≤ c) (hm : xs.length ≤ maxLen) (hA : 0 < xs.length → A = some ad)
      (hΨ : ∀ i, i < xs.length → E.Ψ (ad.add i) = some (vals i)) (hf : ∀ p ∈ xs, p.flat = true ∨ p = .top) (h1 : ∀ i, i < xs.length → (vals i).oneCell' = true)
      (hr : ∀ (i : Nat) (p : PVal), xs[i]? = some p → RelP E p (vals i)) : RelP E (.fsl xs) (.slice A xs.length c)

/-! ### small facts -/
theorem RelD.mono {Φ Φ' : Mem} (hs : ∀ a v, Φ a = some v → Φ' a = some v) {d : Dat} {v : Value} (h : RelD Φ d v) : RelD Φ' d v := by
  induction h with
  | bool b => exact .bool b
  | int k n => exact .int k n
  | str s => exact .str s
  | agg cs vs hl hf hr ih => exact .agg cs vs hl hf ih
  | sl xs A ad c sz vals hc hm hA hsz hf hΦ hr ih => exact .sl xs A ad c sz vals hc hm hA hsz hf (fun j i hj hi => hs _ _ (hΦ j i hj hi)) ih

theorem RelD.one {Φ : Mem} {d : Dat} {v : Value} (h : RelD Φ d v) (hf : d.flat = true) : v.oneCell' = true := by
  cases h <;> first | rfl | simp [Dat.flat] at hf

theorem RelP.one {E : Env} {p : PVal} {v : Value} (h : RelP E p v) (hf : p.flat = true) : v.oneCell' = true := by
  cases h with
  | dat d v h => exact h.one (by simpa [PVal.flat] using hf)
  | ow k e z xs v h hk hz => exact h.one rfl
  | top => simp [PVal.flat] at hf
  | undef => simp [PVal.flat] at hf
  | agg => simp [PVal.flat] at hf
  | tup => simp [PVal.flat] at hf
  | _ => rfl

/-- Memory grows, nothing is said of fewer boxes. -/
structure Env.le (E E' : Env) : Prop where
  phi : ∀ a v, E.Φ a = some v → E'.Φ a = some v
  psi : ∀ a v, E.Ψ a = some v → E'.Ψ a = some v
  beta : ∀ t b, E.β t = some b → E'.β t = some b
  gam : ∀ k v, E.γ k = some v → E'.γ k = some v

theorem Env.le.refl (E : Env) : E.le E := ⟨fun _ _ h => h, fun _ _ h => h, fun _ _ h => h, fun _ _ h => h⟩
theorem Env.le.trans {E E' E'' : Env} (h : E.le E') (k : E'.le E'') : E.le E'' :=
  ⟨fun a v x => k.phi a v (h.phi a v x), fun a v x => k.psi a v (h.psi a v x), fun a v x => k.beta a v (h.beta a v x), fun a v x => k.gam a v (h.gam a v x)⟩

theorem RelP.mono {E E' : Env} (hs : E.le E') {p : PVal} {v : Value} (h : RelP E p v) : RelP E' p v := by
  induction h with
  | top v => exact .top v
  | undef => exact .undef
  | dat d v h => exact .dat d v (h.mono hs.phi)
  | nilS => exact .nilS
  | ow k e z xs v h hk hz => exact .ow k e z xs v (h.mono hs.phi) (hs.gam _ _ hk) hz
  | cptr cs ad vals hΨ hf h1 hr ih => exact .cptr cs ad vals (fun i hi => hs.psi _ _ (hΨ i hi)) hf h1 ih
  | bptr t off b h => exact .bptr t off b (hs.beta _ _ h)
  | msl t n b c h hc hm => exact .msl t n b c (hs.beta _ _ h) hc hm
  | fn f caps vs hl hr ih => exact .fn f caps vs hl ih
  | yld l => exact .yld l
  | agg cs vs hl h1 hf hr ih => exact .agg cs vs hl h1 hf ih
  | tup cs vs hl hr ih => exact .tup cs vs hl ih
  | fsl xs A ad c vals hc hm hA hΨ hf h1 hr ih => exact .fsl xs A ad c vals hc hm hA (fun i hi => hs.psi _ _ (hΨ i hi)) hf h1 ih

theorem kills_get (d : Nat) : ∀ (cs : List PVal) (i : Nat), (kills d cs)[i]? = (cs[i]?).map (PVal.kill d)
  | [], i => by simp [kills]
  | p :: ps, 0 => by simp [kills]
  | p :: ps, i + 1 => by simp [kills, kills_get d ps i]
theorem kills_length (d : Nat) : ∀ cs : List PVal, (kills d cs).length = cs.length
  | [] => rfl
  | p :: ps => by simp [kills, kills_length d ps]
theorem kills_map (d : Nat) : ∀ cs : List PVal, kills d cs = cs.map (PVal.kill d)
  | [] => rfl
  | p :: ps => by simp [kills, kills_map d ps]
theorem kill_flat (d : Nat) (p : PVal) (h : p.flat = true ∨ p = .top) : (p.kill d).flat = true ∨ p.kill d = .top := by
  rcases h with h | rfl
  · cases p with
    | ow k e z xs => simp only [PVal.kill]; split <;> exact .inl rfl
    | bptr t off => simp only [PVal.kill]; split <;> first | exact .inr rfl | exact .inl rfl
    | msl t n => simp only [PVal.kill]; split <;> first | exact .inr rfl | exact .inl rfl
    | dat x => exact .inl h
    | nilS => exact .inl rfl
    | cptr cs => exact .inl rfl
    | fn f cs => exact .inl rfl
    | fsl cs => exact .inl rfl
    | yld l => exact .inl rfl
    | _ => simp [PVal.flat] at h
  · exact .inr rfl

/-- The environment without box d and row d. -/
def Env.kill (E : Env) (d : Nat) : Env := { E with β := fun t => if t = d then none else E.β t, γ := fun k => if k = d then none else E.γ k }

theorem kill_mem_flat {d : Nat} {cs : List PVal} (hf : ∀ p ∈ cs, p.flat = true ∨ p = .top) : ∀ p ∈ kills d cs, p.flat = true ∨ p = .top := by
  intro p hp
  rw [kills_map] at hp
  obtain ⟨q, hq, rfl⟩ := List.mem_map.1 hp
  exact kill_flat d q (hf q hq)

theorem RelP.kill (d : Nat) {E : Env} {p : PVal} {v : Value} (h : RelP E p v) : RelP (E.kill d) (p.kill d) v := by
  induction h with
  | top v => exact .top v
  | undef => exact .undef
  | dat x v h => exact .dat x v h
  | nilS => exact .nilS
  | yld l => exact .yld l
  | ow k e z xs v h hk hz =>
    simp only [PVal.kill]
    split
    · exact .dat _ _ h
    · exact .ow k e z xs v h (by simp [Env.kill, *]) hz
  | cptr cs ad vals hΨ hf h1 hr ih =>
    refine .cptr _ ad vals (fun i hi => hΨ i (by rwa [kills_length] at hi)) (kill_mem_flat hf) (fun i hi => h1 i (by rwa [kills_length] at hi)) (fun i p hp => ?_)
    rw [kills_get] at hp
    obtain ⟨q, hq, rfl⟩ := Option.map_eq_some_iff.1 hp
    exact ih i q hq
  | bptr t off b h =>
    simp only [PVal.kill]
    split
    · exact .top _
    · exact .bptr t off b (by simp [Env.kill, *])
  | msl t n b c h hc hm =>
    simp only [PVal.kill]
    split
    · exact .top _
    · exact .msl t n b c (by simp [Env.kill, *]) hc hm
  | fn f caps vs hl hr ih =>
    refine .fn f _ vs (by rw [kills_length]; exact hl) (fun i p v hp hv => ?_)
    rw [kills_get] at hp
    obtain ⟨q, hq, rfl⟩ := Option.map_eq_some_iff.1 hp
    exact ih i q v hq hv
  | agg cs vs hl h1 hf hr ih =>
    refine .agg _ vs (by rw [kills_length]; exact hl) h1 (kill_mem_flat hf) (fun i p v hp hv => ?_)
    rw [kills_get] at hp
    obtain ⟨q, hq, rfl⟩ := Option.map_eq_some_iff.1 hp
    exact ih i q v hq hv
  | tup cs vs hl hr ih =>
    refine .tup _ vs (by rw [kills_length]; exact hl) (fun i p v hp hv => ?_)
    rw [kills_get] at hp
    obtain ⟨q, hq, rfl⟩ := Option.map_eq_some_iff.1 hp
    exact ih i q v hq hv
  | fsl xs A ad c vals hc hm hA hΨ hf h1 hr ih =>
    have h := RelP.fsl (E := E.kill d) (kills d xs) A ad c vals (by rwa [kills_length]) (by rwa [kills_length]) (by rwa [kills_length]) (fun i hi => hΨ i (by rwa [kills_length] at hi)) (kill_mem_flat hf) (fun i hi => h1 i (by rwa [kills_length] at hi)) (fun i p hp => by
      rw [kills_get] at hp
      obtain ⟨q, hq, rfl⟩ := Option.map_eq_some_iff.1 hp
      exact ih i q hq)
    rw [kills_length] at h
    exact h

end Go.Abs

/- The invariant between the abstract state and the machine's, and the operations that only compute. -/
set_option linter.unusedVariables false
set_option linter.unusedSimpArgs false
namespace Go.Abs
open Go Go.RowKit

structure Inv (base : Nat) (E : Env) (s : ASt) (tm : Array Value) (w : World) : Prop where
  tm : ∀ i, RelP E (s.t i) (tm.getD i Go.undef)
  phi : ∀ a v, E.Φ a = some v → w.cell? a = some v
  psi : ∀ a v, E.Ψ a = some v → w.cell? a = some v
  sub : ∀ a v, E.Φ a = some v → E.Ψ a = some v
  box : ∀ t cs, s.h t = some cs → ∃ b c e, E.β t = some b ∧ w.heap[b]? = some (.cells c e (0, 0)) ∧ c.size = cs.length ∧ (∀ p ∈ cs, p.flat = true ∨ p = .top) ∧
    ∀ (i : Nat) (p : PVal) (v : Value), cs[i]? = some p → c[i]? = some v → RelP E p v ∧ v.oneCell' = true
  bsep : ∀ t b, E.β t = some b → base ≤ b ∧ b < w.heap.size ∧ ∀ a : Addr, a.block = b → E.Ψ a = none
  binj : ∀ t t' b, E.β t = some b → E.β t' = some b → t = t'
  row : ∀ k v e z, E.γ k = some (v, e, z) → ∃ n inner, w.ownsRow base e z v n inner ∧ ∀ g, v.ownBlock = some g → (∀ a : Addr, a.block = g → n * z ≤ a.off → E.Ψ a = none) ∧ ∀ t, E.β t ≠ some g
  rinj : ∀ k k' v v' e e' z z' g, E.γ k = some (v, e, z) → E.γ k' = some (v', e', z') → v.ownBlock = some g → v'.ownBlock = some g → k = k'
  hb : base ≤ w.heap.size
  hn : ∀ t, s.h t = none → E.β t = none

/-- What a piece of code leaves: nothing that was there has turned, memory that is only read has grown by new blocks alone. -/
structure Ext (base : Nat) (E E' : Env) : Prop where
  phi : ∀ a v, E.Φ a = some v → E'.Φ a = some v
  psi : ∀ a v, E.Ψ a = some v → E'.Ψ a = some v
  new : ∀ a v, E'.Ψ a = some v → E.Ψ a = some v ∨ base ≤ a.block
  newp : ∀ a v, E'.Φ a = some v → E.Φ a = some v ∨ base ≤ a.block
theorem Ext.refl (base : Nat) (E : Env) : Ext base E E := ⟨fun _ _ h => h, fun _ _ h => h, fun _ _ h => .inl h, fun _ _ h => .inl h⟩
theorem Ext.trans {base : Nat} {E E' E'' : Env} (h : Ext base E E') (k : Ext base E' E'') : Ext base E E'' :=
  ⟨fun a v x => k.phi a v (h.phi a v x), fun a v x => k.psi a v (h.psi a v x), fun a v x => (k.new a v x).elim (h.new a v) .inr, fun a v x => (k.newp a v x).elim (h.newp a v) .inr⟩

/-! ### values -/
theorem constC_rel (E : Env) (v : Value) : RelP E (constC v) v := by
  cases v with
  | bool b => exact .dat _ _ (.bool b)
  | int k n => exact .dat _ _ (.int k n)
  | string s => exact .dat _ _ (.str s)
  | slice a n c =>
    unfold constC
    split <;> rename_i h <;> first | (cases h; done) | skip
    · injection h with h1 h2 h3; subst h1 h2 h3; exact .nilS
    · exact .top _
  | _ => exact .top _
theorem constC_one {v : Value} (h : (constC v).flat = true) : v.oneCell' = true := (constC_rel ⟨fun _ => none, fun _ => none, fun _ => none, fun _ => none⟩ v).one h

theorem flatsOf_get : ∀ {cs : List PVal} {ds : List Dat}, flatsOf cs = some ds → ds.length = cs.length ∧ (∀ d ∈ ds, d.flat = true) ∧ ∀ (i : Nat) (p : PVal), cs[i]? = some p → ∃ d, ds[i]? = some d ∧ datOf p = some d
  | [], ds, h => by simp [flatsOf] at h; subst h; simp
  | p :: ps, ds, h => by
    simp only [flatsOf] at h
    split at h
    · rename_i d es hd he
      split at h
      · rename_i hf
        injection h with h; subst h
        obtain ⟨h1, h2, h3⟩ := flatsOf_get he
        refine ⟨by simp [h1], fun x hx => ?_, fun i q hq => ?_⟩
        · rcases List.mem_cons.1 hx with rfl | hx
          · exact hf
          · exact h2 x hx
        · cases i with
          | zero => simp at hq; subst hq; exact ⟨d, by simp, hd⟩
          | succ i => simp at hq; simpa using h3 i q hq
      · cases h
    · cases h

theorem datOf_rel {E : Env} {p : PVal} {v : Value} {d : Dat} (h : RelP E p v) (hd : datOf p = some d) : RelD E.Φ d v := by
  cases h <;> simp [datOf] at hd
  · subst hd; assumption
  · subst hd; exact RelD.sl [] none ⟨0, 0, none⟩ 0 0 (fun _ _ => Go.undef) (by simp) (by simp [maxLen]) (by simp) (by simp) (by simp) (by simp) (by simp)
  · subst hd; assumption

theorem mkAgg_rel {E : Env} {cs : List PVal} {vs : List Value} (hl : vs.length = cs.length) (h1 : ∀ v ∈ vs, v.oneCell' = true) (hf : ∀ p ∈ cs, p.flat = true ∨ p = .top)
    (hr : ∀ (i : Nat) (p : PVal) (v : Value), cs[i]? = some p → vs[i]? = some v → RelP E p v) : RelP E (mkAgg cs) (.agg vs.toArray) := by
  unfold mkAgg
  split
  · rename_i ds hd
    obtain ⟨g1, g2, g3⟩ := flatsOf_get hd
    refine .dat _ _ (.agg ds vs (by omega) g2 (fun i c v hc hv => ?_))
    have hi : i < cs.length := by have := (List.getElem?_eq_some_iff.1 hc).1; omega
    obtain ⟨d, h2, h3⟩ := g3 i _ (List.getElem?_eq_getElem hi)
    rw [hc] at h2; injection h2 with h2; subst h2
    exact datOf_rel (hr i _ v (List.getElem?_eq_getElem hi) hv) h3
  · exact .agg cs vs hl h1 hf hr

theorem constP_rel (E : Env) (v : Value) : RelP E (constP v) v := by
  cases v with
  | bool b => exact .dat _ _ (.bool b)
  | int k n => exact .dat _ _ (.int k n)
  | string s => exact .dat _ _ (.str s)
  | slice a n c =>
    unfold constP
    split <;> rename_i h <;> first | (cases h; done) | skip
    · injection h with h1 h2 h3; subst h1 h2 h3; exact .nilS
    · exact .top _
  | agg cs =>
    simp only [constP]
    split
    · rename_i ds hd
      obtain ⟨g1, g2, g3⟩ := flatsOf_get hd
      have := RelD.agg (Φ := E.Φ) ds cs.toList (by simpa using g1.symm) g2 (fun i c v hc hv => by
        have hi : i < cs.toList.length := (List.getElem?_eq_some_iff.1 hv).1
        obtain ⟨d, h2, h3⟩ := g3 i (constC v) (by rw [List.getElem?_map, hv]; rfl)
        rw [hc] at h2; injection h2 with h2; subst h2
        exact datOf_rel (constC_rel E v) h3)
      simpa using RelP.dat _ _ this
    · exact .top _
  | tuple vs =>
    simp only [constP]
    split
    · rename_i h
      have : vs = #[] := by simpa using h
      subst this
      exact .undef
    · exact .top _
  | _ => exact .top _

theorem Inv.eval {base : Nat} {E : Env} {s : ASt} {a : Act} {w : World} (h : Inv base E s a.tmps w) (x : Operand) : RelP E (s.eval x) (a.eval x) := by
  cases x with
  | tmp t => exact h.tm t
  | const v => exact constP_rel E v
  | global g => exact .top _
  | func f => exact .fn f [] [] rfl (by simp)

/-- The cells of a value, where they are cells. -/
theorem cells_rel {E : Env} {p : PVal} {v : Value} (h : RelP E p v) (hf : p.cells.all PVal.flat = true) : v.cells.size = p.cells.length ∧
    ∀ (i : Nat) (q : PVal) (u : Value), p.cells[i]? = some q → v.cells[i]? = some u → RelP E q u ∧ u.oneCell' = true := by
  have single : ∀ {p : PVal} {v : Value}, RelP E p v → p.flat = true → v.cells.size = 1 ∧ ∀ (i : Nat) (q : PVal) (u : Value), ([p] : List PVal)[i]? = some q → v.cells[i]? = some u → RelP E q u ∧ u.oneCell' = true := by
    intro p v h hf
    have h1 := h.one hf
    have hc : v.cells = #[v] := by cases v <;> first | rfl | (simp [Value.oneCell'] at h1)
    rw [hc]
    refine ⟨rfl, fun i q u hq hu => ?_⟩
    cases i with
    | zero => simp at hq hu; subst hq hu; exact ⟨h, h1⟩
    | succ i => simp at hq
  cases h with
  | dat d v h =>
    cases h with
    | agg cs vs hl hfl hr =>
      simp only [PVal.cells, Dat.cells, Value.cells, List.length_map]
      refine ⟨by simpa using hl, fun i q u hq hu => ?_⟩
      rw [List.getElem?_map] at hq
      obtain ⟨c, hc, rfl⟩ := Option.map_eq_some_iff.1 hq
      have hr' := hr i c u hc (by simpa using hu)
      exact ⟨.dat _ _ hr', hr'.one (hfl c (List.mem_of_getElem? hc))⟩
    | bool b => exact single (.dat _ _ (.bool b)) rfl
    | int k n => exact single (.dat _ _ (.int k n)) rfl
    | str s => exact single (.dat _ _ (.str s)) rfl
    | sl xs A ad c sz vals hc hm hA hsz hf2 hΦ hr => exact single (.dat _ _ (.sl xs A ad c sz vals hc hm hA hsz hf2 hΦ hr)) rfl
  | agg cs vs hl h1 hfl hr =>
    simp only [PVal.cells, Value.cells]
    refine ⟨by simpa using hl, fun i q u hq hu => ?_⟩
    have hu' : vs[i]? = some u := by simpa using hu
    exact ⟨hr i q u hq hu', h1 u (List.mem_of_getElem? hu')⟩
  | top v => simp [PVal.cells, PVal.flat] at hf
  | undef => simp [PVal.cells, PVal.flat] at hf
  | tup cs vs hl hr => simp [PVal.cells, PVal.flat] at hf
  | nilS => exact single .nilS rfl
  | ow k e z xs v h hk hz => exact single (.ow k e z xs v h hk hz) rfl
  | cptr cs ad vals a b c d => exact single (.cptr cs ad vals a b c d) rfl
  | bptr t off b h => exact single (.bptr t off b h) rfl
  | msl t n b c h hc hm => exact single (.msl t n b c h hc hm) rfl
  | fn f caps vs hl hr => exact single (.fn f caps vs hl hr) rfl
  | yld l => exact single (.yld l) rfl
  | fsl xs A ad c vals a1 a2 a3 a4 a5 a6 a7 => exact single (.fsl xs A ad c vals a1 a2 a3 a4 a5 a6 a7) rfl

/-! ### types -/
theorem tinf_spec {P : Program} {t : Nat} {i : TInfo} (h : tinf P t = some i) : ∃ ti d z, P.info? t = some ti ∧ P.underlying t = some d ∧ ti.zero = some z ∧ i = ⟨TD.ofDesc d, ti.size, ti.bytes, z.cells.toList.map constC⟩ := by
  unfold tinf at h
  split at h
  · rename_i ti d h1 h2
    split at h
    · rename_i z hz
      injection h with h
      exact ⟨ti, d, z, h1, h2, hz, h.symm⟩
    · cases h
  · cases h
theorem ofDesc_slice {d : TypeDesc} {e : Nat} (h : TD.ofDesc d = .slice e) : d = .slice e := by
  cases d <;> simp [TD.ofDesc] at h <;> first | (subst h; rfl) | (split at h <;> cases h)
theorem ofDesc_int {d : TypeDesc} {k : IntKind} (h : TD.ofDesc d = .int k) : d = .int k := by
  cases d <;> simp [TD.ofDesc] at h <;> first | (subst h; rfl) | (split at h <;> cases h)
theorem ofDesc_string {d : TypeDesc} (h : TD.ofDesc d = .string) : d = .string := by
  cases d <;> simp [TD.ofDesc] at h <;> first | rfl | (split at h <;> cases h)
theorem ofDesc_bool {d : TypeDesc} (h : TD.ofDesc d = .bool) : d = .bool := by
  cases d <;> simp [TD.ofDesc] at h <;> first | rfl | (split at h <;> cases h)
theorem ofDesc_struct {d : TypeDesc} {fs : List (Nat × Nat)} (h : TD.ofDesc d = .struct fs) : ∃ gs : Array Field, d = .struct gs ∧ fs = gs.toList.map (fun f => (f.type, f.offset)) ∧ ∀ f ∈ gs.toList, f.name ≠ "_" := by
  cases d with
  | struct gs =>
    simp only [TD.ofDesc] at h
    split at h
    · cases h
    · rename_i hn
      injection h with h
      refine ⟨gs, rfl, h.symm, fun f hf he => hn ?_⟩
      exact List.any_eq_true.2 ⟨f, hf, by simp [he]⟩
  | _ => simp [TD.ofDesc] at h
theorem aggSize_spec {P : Program} {t : Nat} {ag : Option Nat} (h : aggSize P t = some ag) (w : World) :
    (isAgg t).run P w = .ok ag.isSome w ∧ ∀ n, ag = some n → (sizeOf t).run P w = .ok n w := by
  unfold aggSize at h
  split at h
  · rename_i fs hu
    obtain ⟨ti, hi, rfl⟩ := Option.map_eq_some_iff.1 h
    exact ⟨by simp [isAgg, run_underlying hu w], fun n hn => by injection hn with hn; simp [sizeOf, typeInfo, hi, hn]⟩
  · rename_i n e hu
    obtain ⟨ti, hi, rfl⟩ := Option.map_eq_some_iff.1 h
    exact ⟨by simp [isAgg, run_underlying hu w], fun n hn => by injection hn with hn; simp [sizeOf, typeInfo, hi, hn]⟩
  · rename_i d h1 h2 hu
    injection h with h; subst h
    refine ⟨?_, fun n hn => by cases hn⟩
    simp only [isAgg, Sem.run_bind, run_underlying hu w, Result.andThen_ok, Option.isSome_none]
    rfl
  · cases h

theorem addr_add_block (a : Addr) (n : Nat) : (a.add n).block = a.block := by unfold Addr.add; split <;> rfl
theorem addr_add_add (a : Addr) (i j : Nat) : (a.add i).add j = a.add (i + j) := by
  unfold Addr.add
  by_cases hi : i = 0 <;> by_cases hj : j = 0 <;> simp [hi, hj, Nat.add_assoc]
theorem addr_mk_add (b o n : Nat) : (⟨b, o, none⟩ : Addr).add n = ⟨b, o + n, none⟩ := by unfold Addr.add; split <;> simp_all

/-- A load out of cells that are known. -/
theorem load_rel {P : Program} {E : Env} {w : World} {t : Nat} {ag : Option Nat} (hag : aggSize P t = some ag) {cs : List PVal} {off : Nat} {p : PVal} (hld : ldAt ag cs off = some p)
    (a : Addr) (vals : Nat → Value) (hc : ∀ i, off + i < cs.length → w.cell? (a.add i) = some (vals (off + i))) (hf : ∀ p ∈ cs, p.flat = true ∨ p = .top)
    (h1 : ∀ i, i < cs.length → (vals i).oneCell' = true) (hr : ∀ (i : Nat) (p : PVal), cs[i]? = some p → RelP E p (vals i)) :
    ∃ v, (loadVar t a).run P w = .ok v w ∧ RelP E p v := by
  obtain ⟨g1, g2⟩ := aggSize_spec hag w
  cases ag with
  | none =>
    simp only [ldAt] at hld
    have hi := (List.getElem?_eq_some_iff.1 hld).1
    have hcell := hc 0 (by omega)
    have ha : a.add 0 = a := by simp [Addr.add]
    rw [ha] at hcell
    refine ⟨vals off, ?_, hr off p hld⟩
    simp [loadVar, g1, hcell]
  | some n =>
    simp only [ldAt] at hld
    split at hld
    · rename_i hle
      injection hld with hld; subst hld
      refine ⟨.agg ((List.range n).map fun i => vals (off + i)).toArray, ?_, mkAgg_rel (by simp; omega) (fun v hv => ?_) (fun p hp => hf p ?_) (fun i p v hp hv => ?_)⟩
      · have hl := run_loadCells (P := P) w a n (fun i => vals (off + i)) (fun j hj => hc j (by omega))
        simp [loadVar, g1, g2 n rfl, hl]
      · obtain ⟨i, hi, rfl⟩ := List.mem_map.1 hv
        exact h1 _ (by have := List.mem_range.1 hi; omega)
      · exact List.mem_of_mem_drop (List.mem_of_mem_take hp)
      · have hi : i < n := by have := (List.getElem?_eq_some_iff.1 hv).1; simpa using this
        rw [List.getElem?_take_of_lt hi, List.getElem?_drop] at hp
        rw [List.getElem?_map, List.getElem?_range hi] at hv
        injection hv with hv
        rw [← hv]
        exact hr _ p hp
    · cases hld

end Go.Abs

/- append onto a row of one's own, told exactly. -/
set_option linter.unusedVariables false
set_option linter.unusedSimpArgs false
namespace Go.Abs
open Go Go.RowKit

theorem run_append_none {P : Program} (w : World) (base : Nat) (t ty e : TypeId) (i : TypeInfo) (size : Nat) (ht : P.underlying t = some (.slice e)) (hi : P.info? e = some i)
    (v : Value) (n : Nat) (xs : List Value) (hown : w.ownsRow base e size v n xs) (A : Option Addr) (c : Nat) : (Builtin.append_ #[t, t] ty #[v, .slice A 0 c]).run P w = .ok v w := by
  have hld : ∀ (a : Addr) (w : World), (loadCells a 0).run P w = .ok #[] w := fun a w => by simp [loadCells, loadCellsFrom]
  rcases hown.2 with ⟨rfl, rfl⟩ | ⟨g, cap, cur, rfl, _, _, hnc, _⟩
  · cases A <;> simp [Builtin.append_, run_underlying ht, sizeOf, typeInfo, hi, Builtin.lenOf, Builtin.firstCells, hld]
  · cases A <;> simp [Builtin.append_, run_underlying ht, sizeOf, typeInfo, hi, Builtin.lenOf, Builtin.firstCells, hld, hnc, storeCells]

theorem append_run {P : Program} (w : World) (base : Nat) (t ty e : TypeId) (i : TypeInfo) (z : Value) (ht : P.underlying t = some (.slice e)) (hi : P.info? e = some i) (hz : i.zero = some z)
    (hzs : z.cells.size = i.size) (hsz : 0 < i.size) (v : Value) (n : Nat) (xs : List Value) (hown : w.ownsRow base e i.size v n xs)
    (A : Option Addr) (ad : Addr) (m c : Nat) (news : List Value) (hA : 0 < m → A = some ad) (hl : news.length = m * i.size) (hnews : ∀ (j : Nat) (u : Value), news[j]? = some u → w.cell? (ad.add j) = some u)
    (h1 : ∀ u ∈ news, u.oneCell' = true) (h63 : n + m ≤ maxLen) (hbytes : (n + m) * i.bytes ≤ 140737488355328) (hbase : base ≤ w.heap.size) :
    ∃ v' w', (Builtin.append_ #[t, t] ty #[v, .slice A m c]).run P w = .ok v' w' ∧ w'.ownsRow base e i.size v' (n + m) (xs ++ news) ∧ w.grownBy w' v'.ownBlock ∧
      (v'.ownBlock = v.ownBlock ∨ v'.ownBlock = some w.heap.size) := by
  rcases Nat.eq_zero_or_pos m with hm | hm
  · subst hm
    have hn : news = [] := List.eq_nil_of_length_eq_zero (by simpa using hl)
    subst hn
    exact ⟨v, w, run_append_none w base t ty e i i.size ht hi v n xs hown A c, by simpa using hown, ⟨rfl, rfl, rfl, Nat.le_refl _, fun _ _ _ => rfl⟩, .inl rfl⟩
  · obtain rfl := hA hm
    have hsmall : n + m ≤ 9223372036854775807 := by simp only [maxLen] at h63; omega
    have hlen : (xs ++ news).length = (n + m) * i.size := by rw [List.length_append, hown.1, hl, Nat.add_mul]
    have grown : ∀ (old : Nat), old < n + m →
        (w.drew.alloc (.cells (xs.toArray ++ news.toArray ++ Builtin.zeroCells z.cells (grownCap w (n + m) old e - (n + m))) e)).ownsRow base e i.size
          (.slice (some ⟨w.heap.size, 0, none⟩) (n + m) (grownCap w (n + m) old e)) (n + m) (xs ++ news) ∧
        w.grownBy (w.drew.alloc (.cells (xs.toArray ++ news.toArray ++ Builtin.zeroCells z.cells (grownCap w (n + m) old e - (n + m))) e)) (some w.heap.size) := by
      intro old ho
      have hge := grownCap_ge w (n + m) old e
      have hcm : grownCap w (n + m) old e ≤ maxLen := grownCap_le_maxLen w (n + m) old e h63
      refine ⟨⟨hlen, .inr ⟨w.heap.size, _, _, rfl, hbase, heap_alloc_new w.drew _, hge, hcm, ?_, ?_⟩⟩, ⟨rfl, rfl, rfl, by simp, fun k hk _ => heap_alloc_old w.drew _ k hk⟩⟩
      · simp only [Array.size_append, List.size_toArray, size_zeroCells, hzs, hown.1, hl, ← Nat.add_mul]
        congr 1
        omega
      · simp only [Array.toList_append, List.append_assoc]
        rw [← List.append_assoc, ← hlen]
        exact List.take_left
    rcases hown.2 with ⟨rfl, rfl⟩ | ⟨g, cap, cur, rfl, hbg, hg, hnc, hcm, hcs, htake⟩
    · have hx : xs = [] := List.eq_nil_of_length_eq_zero (by simpa using hown.1)
      subst hx
      have hr := run_append_nil (P := P) w t ty e i z ht hi hz ad m c news hl hnews (by omega) (by omega) (by have hb := hbytes; simp only [Nat.zero_add] at hb; omega)
      have hgr := grown 0 (by omega)
      simp only [Nat.zero_add, List.nil_append, Array.empty_append] at hgr ⊢
      exact ⟨_, _, hr, hgr.1, hgr.2, .inr rfl⟩
    · by_cases hroom : n + m ≤ cap
      · have hfit : n * i.size + news.length ≤ cur.size := by rw [hl, hcs, ← Nat.add_mul]; exact Nat.mul_le_mul_right _ hroom
        have hr := run_append_room (P := P) w t ty e i ht hi g n cap cur hg ad m c news hl hnews h1 hroom hfit
        refine ⟨_, _, hr, ⟨hlen, .inr ⟨g, cap, _, rfl, hbg, setRow_heap w g cur _ e _ hg, hroom, hcm, ?_, ?_⟩⟩, ⟨rfl, rfl, rfl, by simp, fun k _ hk => setRow_other w g k _ (fun e => hk (by simp [Value.ownBlock, e]))⟩, .inl rfl⟩
        · simp only [List.size_toArray, List.length_append, List.length_take, List.length_drop, Array.length_toList]
          omega
        · rw [htake, ← hlen]
          exact List.take_left
      · have holds : ∀ (j : Nat) (u : Value), xs[j]? = some u → w.cell? ((⟨g, 0, none⟩ : Addr).add j) = some u := hown.cells (g := g) rfl
        have hr := run_append_grow (P := P) w t ty e i z ht hi hz ⟨g, 0, none⟩ n cap xs hown.1 holds ad m c news hl hnews (by omega) (by omega) (growslice_fits (by omega) hbytes)
        have hgr := grown cap (by omega)
        exact ⟨_, _, hr, hgr.1, hgr.2, .inr rfl⟩
end Go.Abs

/- How the invariant is kept when memory turns. -/
set_option linter.unusedVariables false
set_option linter.unusedSimpArgs false
namespace Go.Abs
open Go Go.RowKit

def putT (tm : Array Value) (dst : Option Nat) (v : Value) : Array Value := match dst with
  | some d => tm.setIfInBounds d v
  | none => tm
theorem put_tmps (a : Act) (dst : Option Nat) (v : Value) : (a.put dst v).tmps = putT a.tmps dst v := by cases dst <;> rfl
theorem put_defers (a : Act) (dst : Option Nat) (v : Value) : (a.put dst v).defers = a.defers := by cases dst <;> rfl
theorem putT_size (tm : Array Value) (dst : Option Nat) (v : Value) : (putT tm dst v).size = tm.size := by cases dst <;> simp [putT]

def dstOk (N : Nat) : Option Nat → Bool
  | some d => decide (d < N)
  | none => true

theorem Inv.put {base : Nat} {E : Env} {s : ASt} {tm : Array Value} {w : World} (h : Inv base E s tm w) (dst : Option Nat) {p : PVal} {v : Value} (hr : RelP E p v) (hd : dstOk tm.size dst = true) :
    Inv base E (s.put dst p) (putT tm dst v) w := by
  cases dst with
  | none => exact h
  | some d =>
    simp [dstOk] at hd
    refine { h with tm := fun i => ?_ }
    simp only [ASt.put, putT, upd]
    by_cases hi : i = d
    · subst hi; simp [hd]; exact hr
    · have := h.tm i
      simp only [if_neg hi]
      rw [show (tm.setIfInBounds d v).getD i Go.undef = tm.getD i Go.undef by simp [Array.getD_eq_getD_getElem?, Array.getElem?_setIfInBounds_ne (Ne.symm hi)]]
      exact this

/-- The same memory told by another environment that says no less. -/
theorem Inv.env {base : Nat} {E E' : Env} {s : ASt} {tm : Array Value} {w : World} (h : Inv base E s tm w) (he : E.le E') (hβ : E'.β = E.β) (hγ : E'.γ = E.γ)
    {w' : World} (hphi : ∀ a v, E'.Φ a = some v → w'.cell? a = some v) (hpsi : ∀ a v, E'.Ψ a = some v → w'.cell? a = some v) (hsub : ∀ a v, E'.Φ a = some v → E'.Ψ a = some v)
    (hnew : ∀ a v, E'.Ψ a = some v → E.Ψ a = some v ∨ w.heap.size ≤ a.block) (hold : ∀ k, k < w.heap.size → w'.heap[k]? = w.heap[k]?) (hsz : w.heap.size ≤ w'.heap.size) : Inv base E' s tm w' := by
  refine ⟨fun i => (h.tm i).mono he, hphi, hpsi, hsub, fun t cs hc => ?_, fun t b hb => ?_, fun t t' b hb hb' => ?_, fun k v e z hk => ?_, fun k k' v v' e e' z z' g hk hk' => ?_, Nat.le_trans h.hb hsz, fun t ht => by rw [hβ]; exact h.hn t ht⟩
  · obtain ⟨b, c, e, h1, h2, h3, h4, h5⟩ := h.box t cs hc
    have hlt := (h.bsep t b h1).2.1
    exact ⟨b, c, e, by rw [hβ]; exact h1, (hold b hlt).trans h2, h3, h4, fun i p v hp hv => ⟨(h5 i p v hp hv).1.mono he, (h5 i p v hp hv).2⟩⟩
  · rw [hβ] at hb
    obtain ⟨h1, h2, h3⟩ := h.bsep t b hb
    refine ⟨h1, by omega, fun a ha => ?_⟩
    cases hx : E'.Ψ a with
    | none => rfl
    | some v => rcases hnew a v hx with h4 | h4
                · rw [h3 a ha] at h4; cases h4
                · omega
  · rw [hβ] at hb hb'; exact h.binj t t' b hb hb'
  · rw [hγ] at hk
    obtain ⟨n, inner, ho, hg⟩ := h.row k v e z hk
    have hlt : ∀ g, v.ownBlock = some g → g < w.heap.size := by
      intro g hgb
      rcases ho.2 with ⟨rfl, _⟩ | ⟨g', cap, cur, rfl, _, hh, _⟩
      · simp [Value.ownBlock] at hgb
      · have : g' = g := by simpa [Value.ownBlock] using hgb
        subst this
        exact (Array.getElem?_eq_some_iff.1 hh).1
    refine ⟨n, inner, ?_, fun g hgb => ⟨fun a ha hle => ?_, fun t => by rw [hβ]; exact (hg g hgb).2 t⟩⟩
    · obtain ⟨h1, h2⟩ := ho
      refine ⟨h1, ?_⟩
      rcases h2 with h2 | ⟨g, cap, cur, hv, hb, hh, r⟩
      · exact .inl h2
      · exact .inr ⟨g, cap, cur, hv, hb, (hold g (Array.getElem?_eq_some_iff.1 hh).1).trans hh, r⟩
    · cases hx : E'.Ψ a with
      | none => rfl
      | some u => rcases hnew a u hx with h4 | h4
                  · rw [(hg g hgb).1 a ha hle] at h4; cases h4
                  · have := hlt g hgb; omega
  · rw [hγ] at hk hk'; exact h.rinj k k' v v' e e' z z' g hk hk'

/-- Memory read only, with the cells c of block b beside it. -/
def memExt (f : Mem) (b : Nat) (c : Array Value) : Mem := fun a => if a.block = b then (if a.spot.isSome then none else c[a.off]?) else f a
def Env.ext (E : Env) (b : Nat) (c : Array Value) : Env := { E with Φ := memExt E.Φ b c, Ψ := memExt E.Ψ b c }

theorem Inv.psi_lt {base : Nat} {E : Env} {s : ASt} {tm : Array Value} {w : World} (h : Inv base E s tm w) {a : Addr} {v : Value} (ha : E.Ψ a = some v) : a.block < w.heap.size := World.block_lt_of_cell? w a (h.psi a v ha)

theorem Inv.alloc {base : Nat} {E : Env} {s : ASt} {tm : Array Value} {w : World} (h : Inv base E s tm w) (c : Array Value) (e : Nat) :
    Inv base (E.ext w.heap.size c) s tm (w.alloc (.cells c e)) ∧ E.le (E.ext w.heap.size c) ∧ Ext base E (E.ext w.heap.size c) ∧ Below base w (w.alloc (.cells c e)) := by
  have hne : ∀ a v, E.Ψ a = some v → a.block ≠ w.heap.size := fun a v ha => by have := h.psi_lt ha; omega
  have hnew : ∀ a v, a.block = w.heap.size → (if a.spot.isSome then none else c[a.off]?) = some v → (w.alloc (.cells c e)).cell? a = some v := by
    intro a v hb hv
    simp only [World.cell?, hb, heap_alloc_new w]
    exact hv
  have hle : E.le (E.ext w.heap.size c) := ⟨fun a v ha => by simp only [Env.ext, memExt]; rw [if_neg (hne a v (h.sub a v ha))]; exact ha, fun a v ha => by simp only [Env.ext, memExt]; rw [if_neg (hne a v ha)]; exact ha, fun _ _ h => h, fun _ _ h => h⟩
  have hcell : ∀ a v, w.cell? a = some v → (w.alloc (.cells c e)).cell? a = some v := fun a v ha => (World.cell?_alloc_lt w _ a (World.block_lt_of_cell? w a ha)).trans ha
  refine ⟨h.env hle rfl rfl (fun a v ha => ?_) (fun a v ha => ?_) (fun a v ha => ?_) (fun a v ha => ?_) (fun k hk => heap_alloc_old w _ k hk) (by simp), hle, ⟨hle.phi, hle.psi, fun a v ha => ?_, fun a v ha => ?_⟩, (Below.refl _ _).alloc h.hb _⟩
  · simp only [Env.ext, memExt] at ha
    split at ha
    · rename_i hb; exact hnew a v hb ha
    · exact hcell a v (h.phi a v ha)
  · simp only [Env.ext, memExt] at ha
    split at ha
    · rename_i hb; exact hnew a v hb ha
    · exact hcell a v (h.psi a v ha)
  · simp only [Env.ext, memExt] at ha ⊢
    split at ha
    · rename_i hb; rw [if_pos hb]; exact ha
    · rename_i hb; rw [if_neg hb]; exact h.sub a v ha
  · simp only [Env.ext, memExt] at ha
    split at ha
    · rename_i hb; right; omega
    · exact .inl ha
  · simp only [Env.ext, memExt] at ha
    split at ha
    · rename_i hb; right; have := h.hb; omega
    · exact .inl ha
  · simp only [Env.ext, memExt] at ha
    split at ha
    · rename_i hb; right; have := h.hb; omega
    · exact .inl ha

/-- Box d and row d are forgotten. -/
theorem Inv.kill {base : Nat} {E : Env} {s : ASt} {tm : Array Value} {w : World} (h : Inv base E s tm w) (d : Nat) : Inv base (E.kill d) (s.kill d) tm w := by
  refine ⟨fun i => (h.tm i).kill d, h.phi, h.psi, h.sub, fun t cs hc => ?_, fun t b hb => ?_, fun t t' b hb hb' => ?_, fun k v e z hk => ?_, fun k k' v v' e e' z z' g hk hk' => ?_, h.hb, fun t ht => ?_⟩
  · simp only [ASt.kill] at hc
    split at hc
    · cases hc
    · rename_i hne
      obtain ⟨cs0, hc0, rfl⟩ := Option.map_eq_some_iff.1 hc
      obtain ⟨b, c, e, h1, h2, h3, h4, h5⟩ := h.box t cs0 hc0
      refine ⟨b, c, e, by simp [Env.kill, hne, h1], h2, by rw [kills_length]; exact h3, kill_mem_flat h4, fun i p v hp hv => ?_⟩
      rw [kills_get] at hp
      obtain ⟨q, hq, rfl⟩ := Option.map_eq_some_iff.1 hp
      exact ⟨(h5 i q v hq hv).1.kill d, (h5 i q v hq hv).2⟩
  · simp only [Env.kill] at hb
    split at hb
    · cases hb
    · exact h.bsep t b hb
  · simp only [Env.kill] at hb hb'
    split at hb
    · cases hb
    · split at hb'
      · cases hb'
      · exact h.binj t t' b hb hb'
  · simp only [Env.kill] at hk
    split at hk
    · cases hk
    · obtain ⟨n, inner, ho, hg⟩ := h.row k v e z hk
      refine ⟨n, inner, ho, fun g hgb => ⟨(hg g hgb).1, fun t => ?_⟩⟩
      simp only [Env.kill]
      split
      · simp
      · exact (hg g hgb).2 t
  · simp only [Env.kill] at hk hk'
    split at hk
    · cases hk
    · split at hk'
      · cases hk'
      · exact h.rinj k k' v v' e e' z z' g hk hk'
  · simp only [Env.kill]
    split
    · rfl
    · rename_i hne
      simp only [ASt.kill, if_neg hne] at ht
      exact h.hn t (by simpa using ht)
theorem Ext.kill (base : Nat) (E : Env) (d : Nat) : Ext base E (E.kill d) := ⟨fun _ _ h => h, fun _ _ h => h, fun _ _ h => .inl h, fun _ _ h => .inl h⟩

/-- The blocks that an environment's boxes and rows lie in. -/
def OwnB (E : Env) (k : Nat) : Prop := (∃ t, E.β t = some k) ∨ ∃ κ v e z, E.γ κ = some (v, e, z) ∧ v.ownBlock = some k
/-- What was there and is not its own lies as it lay. -/
structure Fr (E : Env) (w : World) (E' : Env) (w' : World) : Prop where
  same : ∀ k, k < w.heap.size → ¬ OwnB E k → w'.heap[k]? = w.heap[k]?
  grew : w.heap.size ≤ w'.heap.size
  own : ∀ k, OwnB E' k → OwnB E k ∨ w.heap.size ≤ k
structure ExtF (base : Nat) (E : Env) (w : World) (E' : Env) (w' : World) : Prop extends Ext base E E', Fr E w E' w'
theorem Fr.refl (E : Env) (w : World) : Fr E w E w := ⟨fun _ _ _ => rfl, Nat.le_refl _, fun _ h => .inl h⟩
theorem Fr.trans {E E' E'' : Env} {w w' w'' : World} (h : Fr E w E' w') (k : Fr E' w' E'' w'') : Fr E w E'' w'' :=
  ⟨fun x hx hn => (k.same x (Nat.lt_of_lt_of_le hx h.grew) (fun ho => (h.own x ho).elim hn (fun hle => by omega))).trans (h.same x hx hn), Nat.le_trans h.grew k.grew,
    fun x hx => (k.own x hx).elim (h.own x) (fun hle => .inr (Nat.le_trans h.grew hle))⟩
theorem ExtF.refl (base : Nat) (E : Env) (w : World) : ExtF base E w E w := ⟨Ext.refl base E, Fr.refl E w⟩
theorem ExtF.trans {base : Nat} {E E' E'' : Env} {w w' w'' : World} (h : ExtF base E w E' w') (k : ExtF base E' w' E'' w'') : ExtF base E w E'' w'' := ⟨h.toExt.trans k.toExt, h.toFr.trans k.toFr⟩
theorem ownB_kill {E : Env} {d k : Nat} (h : OwnB (E.kill d) k) : OwnB E k := by
  rcases h with ⟨t, h⟩ | ⟨κ, v, e, z, h, hv⟩
  · simp only [Env.kill] at h
    split at h
    · cases h
    · exact .inl ⟨t, h⟩
  · simp only [Env.kill] at h
    split at h
    · cases h
    · exact .inr ⟨κ, v, e, z, h, hv⟩
theorem ExtF.kill (base : Nat) (E : Env) (d : Nat) (w : World) : ExtF base E w (E.kill d) w := ⟨Ext.kill base E d, fun _ _ _ => rfl, Nat.le_refl _, fun _ h => .inl (ownB_kill h)⟩
/-- Memory is made. -/
theorem Fr.alloc {E E' : Env} {w : World} (o : Obj) (h : ∀ k, OwnB E' k → OwnB E k ∨ w.heap.size ≤ k) : Fr E w E' (w.alloc o) := ⟨fun k hk _ => heap_alloc_old w _ k hk, by simp, h⟩
/-- The same boxes and rows, whatever is read. -/
theorem Fr.sameOwn {E E' : Env} {w w' : World} (h : ∀ k, k < w.heap.size → w'.heap[k]? = w.heap[k]?) (hs : w.heap.size ≤ w'.heap.size) (hβ : E'.β = E.β) (hγ : E'.γ = E.γ) : Fr E w E' w' :=
  ⟨fun k hk _ => h k hk, hs, fun k ho => .inl (by unfold OwnB at *; rw [hβ, hγ] at ho; exact ho)⟩

theorem Inv.killL {base : Nat} {tm : Array Value} {w : World} : ∀ (ds : List Nat) {E : Env} {s : ASt}, Inv base E s tm w → ∃ E', Inv base E' (ASt.killL ds s) tm w ∧ ExtF base E w E' w
  | [], E, s, h => ⟨E, h, ExtF.refl _ _ _⟩
  | d :: ds, E, s, h => by
    obtain ⟨E', h1, h2⟩ := Inv.killL ds (h.kill d)
    exact ⟨E', h1, (ExtF.kill base E d w).trans h2⟩

/-- A new box. -/
theorem Inv.newBox {base : Nat} {E : Env} {s : ASt} {tm : Array Value} {w : World} (h : Inv base E s tm w) (d : Nat) (hβ : E.β d = none) (hh : s.h d = none)
    (cs : List PVal) (c : Array Value) (e : Nat) (hl : c.size = cs.length) (hf : ∀ p ∈ cs, p.flat = true ∨ p = .top) (hr : ∀ (i : Nat) (p : PVal) (v : Value), cs[i]? = some p → c[i]? = some v → RelP E p v ∧ v.oneCell' = true) :
    let E' : Env := { E with β := upd E.β d (some w.heap.size) }
    Inv base E' { s with h := upd s.h d (some cs) } tm (w.alloc (.cells c e)) ∧ E.le E' := by
  intro E'
  have hle : E.le E' := ⟨fun _ _ h => h, fun _ _ h => h, fun t b hb => by
    show (if t = d then some w.heap.size else E.β t) = some b
    rw [if_neg (fun he => by rw [he, hβ] at hb; cases hb)]; exact hb, fun _ _ h => h⟩
  have hcell : ∀ a v, w.cell? a = some v → (w.alloc (.cells c e)).cell? a = some v := fun a v ha => (World.cell?_alloc_lt w _ a (World.block_lt_of_cell? w a ha)).trans ha
  refine ⟨⟨fun i => (h.tm i).mono hle, fun a v ha => hcell a v (h.phi a v ha), fun a v ha => hcell a v (h.psi a v ha), h.sub, fun t cs' hc => ?_, fun t b hb => ?_, fun t t' b hb hb' => ?_, fun k v e z hk => ?_, h.rinj, by simp; exact Nat.le_succ_of_le h.hb, fun t ht => by
    simp only [upd] at ht
    show (if t = d then some w.heap.size else E.β t) = none
    split at ht
    · cases ht
    · rename_i hne; rw [if_neg hne]; exact h.hn t ht⟩, hle⟩
  · simp only [upd] at hc
    split at hc
    · rename_i ht
      injection hc with hc; subst hc
      refine ⟨w.heap.size, c, e, by show (if t = d then _ else _) = _; rw [if_pos ht], heap_alloc_new w _, hl, hf, fun i p v hp hv => ⟨(hr i p v hp hv).1.mono hle, (hr i p v hp hv).2⟩⟩
    · rename_i ht
      obtain ⟨b, c', e', h1, h2, h3, h4, h5⟩ := h.box t cs' hc
      exact ⟨b, c', e', hle.beta _ _ h1, (heap_alloc_old w _ b (h.bsep t b h1).2.1).trans h2, h3, h4, fun i p v hp hv => ⟨(h5 i p v hp hv).1.mono hle, (h5 i p v hp hv).2⟩⟩
  · have hb' : (if t = d then some w.heap.size else E.β t) = some b := hb
    split at hb'
    · injection hb' with hb'; subst hb'
      refine ⟨h.hb, by simp, fun a ha => ?_⟩
      cases hx : E'.Ψ a with
      | none => rfl
      | some v => have := h.psi_lt hx; omega
    · obtain ⟨h1, h2, h3⟩ := h.bsep t b hb'
      exact ⟨h1, by simp; omega, h3⟩
  · have g1 : (if t = d then some w.heap.size else E.β t) = some b := hb
    have g2 : (if t' = d then some w.heap.size else E.β t') = some b := hb'
    by_cases e1 : t = d <;> by_cases e2 : t' = d
    · rw [e1, e2]
    · rw [if_pos e1] at g1; rw [if_neg e2] at g2; injection g1 with g1
      have := (h.bsep t' b g2).2.1; omega
    · rw [if_neg e1] at g1; rw [if_pos e2] at g2; injection g2 with g2
      have := (h.bsep t b g1).2.1; omega
    · rw [if_neg e1] at g1; rw [if_neg e2] at g2; exact h.binj t t' b g1 g2
  · obtain ⟨n, inner, ho, hg⟩ := h.row k v e z hk
    refine ⟨n, inner, ho.alloc _, fun g hgb => ⟨(hg g hgb).1, fun t ht => ?_⟩⟩
    have g1 : (if t = d then some w.heap.size else E.β t) = some g := ht
    split at g1
    · injection g1 with g1
      have hlt : g < w.heap.size := by
        rcases ho.2 with ⟨rfl, _⟩ | ⟨g', cap, cur, rfl, _, hh, _⟩
        · simp [Value.ownBlock] at hgb
        · have : g' = g := by simpa [Value.ownBlock] using hgb
          subst this
          exact (Array.getElem?_eq_some_iff.1 hh).1
      omega
    · exact (hg g hgb).2 t g1

/-- A box is written. -/
theorem Inv.setBox {base : Nat} {E : Env} {s : ASt} {tm : Array Value} {w : World} (h : Inv base E s tm w) (t : Nat) {b : Nat} (hβ : E.β t = some b) {old c : Array Value} {e : Nat} (hg : w.heap[b]? = some (.cells old e (0, 0)))
    (cs : List PVal) (hl : c.size = cs.length) (hf : ∀ p ∈ cs, p.flat = true ∨ p = .top) (hr : ∀ (i : Nat) (p : PVal) (v : Value), cs[i]? = some p → c[i]? = some v → RelP E p v ∧ v.oneCell' = true) :
    Inv base E { s with h := upd s.h t (some cs) } tm (w.setRow b c) ∧ Below base w (w.setRow b c) := by
  obtain ⟨b1, b2, b3⟩ := h.bsep t b hβ
  have hblk : ∀ a v, E.Ψ a = some v → a.block ≠ b := fun a v ha he => by rw [b3 a he] at ha; cases ha
  refine ⟨⟨h.tm, fun a v ha => (cell_setRow_other w b c a (hblk a v (h.sub a v ha))).trans (h.phi a v ha), fun a v ha => (cell_setRow_other w b c a (hblk a v ha)).trans (h.psi a v ha), h.sub, fun t' cs' hc => ?_, fun t' b' hb => ?_, h.binj, fun k v e z hk => ?_, h.rinj, by simp [World.setRow]; exact h.hb, fun t' ht => by
    simp only [upd] at ht
    split at ht
    · cases ht
    · exact h.hn t' ht⟩,
    ⟨rfl, rfl, rfl, by simp, fun k hk => setRow_other w b k c (by omega)⟩⟩
  · simp only [upd] at hc
    split at hc
    · rename_i ht
      injection hc with hc; subst hc ht
      exact ⟨b, c, e, hβ, setRow_heap w b old c e _ hg, hl, hf, hr⟩
    · rename_i ht
      obtain ⟨b', c', e', h1, h2, h3, h4, h5⟩ := h.box t' cs' hc
      have hne : b' ≠ b := fun he => ht (h.binj t' t b' h1 (by rw [he]; exact hβ))
      exact ⟨b', c', e', h1, (setRow_other w b b' c hne).trans h2, h3, h4, h5⟩
  · obtain ⟨h1, h2, h3⟩ := h.bsep t' b' hb
    exact ⟨h1, by simp [World.setRow]; exact h2, h3⟩
  · obtain ⟨n, inner, ho, hgg⟩ := h.row k v e z hk
    refine ⟨n, inner, ?_, hgg⟩
    obtain ⟨h1, h2⟩ := ho
    refine ⟨h1, ?_⟩
    rcases h2 with h2 | ⟨g, cap, cur, hv, hb, hh, r⟩
    · exact .inl h2
    · have hne : g ≠ b := fun he => (hgg g (by rw [hv]; rfl)).2 t (by rw [hβ, he])
      exact .inr ⟨g, cap, cur, hv, hb, (setRow_other w b g c hne).trans hh, r⟩

end Go.Abs

/- A row that is appended to. -/
set_option linter.unusedVariables false
set_option linter.unusedSimpArgs false
namespace Go.Abs
open Go Go.RowKit

/-- The cells one behind the other of a list whose elements have z cells. -/
def FlatRel (Φ : Mem) (z : Nat) (xs : List Dat) (inner : List Value) : Prop :=
  inner.length = xs.length * z ∧ ∀ (j : Nat) (d : Dat) (i : Nat) (c : Dat), xs[j]? = some d → d.cells[i]? = some c → ∃ u, inner[j * z + i]? = some u ∧ RelD Φ c u

theorem FlatRel.nil (Φ : Mem) (z : Nat) : FlatRel Φ z [] [] := ⟨by simp, fun j d i c h => by simp at h⟩
theorem FlatRel.mono {Φ Φ' : Mem} (hs : ∀ a v, Φ a = some v → Φ' a = some v) {z : Nat} {xs : List Dat} {inner : List Value} (h : FlatRel Φ z xs inner) : FlatRel Φ' z xs inner :=
  ⟨h.1, fun j d i c hj hc => let ⟨u, h1, h2⟩ := h.2 j d i c hj hc; ⟨u, h1, h2.mono hs⟩⟩
theorem FlatRel.append {Φ : Mem} {z : Nat} {xs ys : List Dat} {a b : List Value} (h : FlatRel Φ z xs a) (k : FlatRel Φ z ys b) (hz : ∀ d ∈ xs, d.cells.length = z) : FlatRel Φ z (xs ++ ys) (a ++ b) := by
  refine ⟨by rw [List.length_append, h.1, k.1, List.length_append, Nat.add_mul], fun j d i c hj hc => ?_⟩
  rcases Nat.lt_or_ge j xs.length with hlt | hge
  · rw [List.getElem?_append_left hlt] at hj
    obtain ⟨u, h1, h2⟩ := h.2 j d i c hj hc
    exact ⟨u, by rw [List.getElem?_append_left (List.getElem?_eq_some_iff.1 h1).1]; exact h1, h2⟩
  · rw [List.getElem?_append_right hge] at hj
    obtain ⟨u, h1, h2⟩ := k.2 _ d i c hj hc
    have hm : xs.length * z ≤ j * z := Nat.mul_le_mul_right _ hge
    refine ⟨u, ?_, h2⟩
    rw [List.getElem?_append_right (by rw [h.1]; omega), h.1]
    rw [Nat.sub_mul] at h1
    rw [show j * z + i - xs.length * z = j * z - xs.length * z + i by omega]
    exact h1

/-- A list in memory, its cells one behind the other. -/
theorem relD_flat {Φ : Mem} {w : World} {xs : List Dat} {v : Value} (h : RelD Φ (.sl xs) v) (hphi : ∀ a v, Φ a = some v → w.cell? a = some v) (z : Nat) (hz : ∀ d ∈ xs, d.cells.length = z) :
    ∃ A ad c inner, v = .slice A xs.length c ∧ xs.length ≤ c ∧ xs.length ≤ maxLen ∧ (0 < xs.length → A = some ad) ∧ FlatRel Φ z xs inner ∧ (∀ (q : Nat) (u : Value), inner[q]? = some u → w.cell? (ad.add q) = some u) ∧ ∀ u ∈ inner, u.oneCell' = true := by
  cases h with
  | sl xs A ad c sz vals hc hm hA hsz hf hΦ hr =>
    rcases xs with _ | ⟨x0, xt⟩
    · exact ⟨A, ad, c, [], rfl, hc, hm, hA, FlatRel.nil _ _, by simp, by simp⟩
    · have hzs : sz = z := by rw [← hsz x0 (by simp), hz x0 (by simp)]
      subst hzs
      generalize hL : x0 :: xt = xs at *
      have hcell : ∀ q, q < xs.length * sz → 0 < sz ∧ q / sz < xs.length ∧ q % sz < sz := by
        intro q hq
        have h0 : 0 < sz := by rcases Nat.eq_zero_or_pos sz with h | h; · rw [h] at hq; omega
                               · exact h
        exact ⟨h0, (Nat.div_lt_iff_lt_mul h0).2 hq, Nat.mod_lt _ h0⟩
      refine ⟨A, ad, c, (List.range (xs.length * sz)).map fun q => vals (q / sz) (q % sz), rfl, hc, hm, hA, ⟨by simp, fun j d i c' hj hc' => ?_⟩, fun q u hq => ?_, fun u hu => ?_⟩
      · have hj1 := (List.getElem?_eq_some_iff.1 hj).1
        have hi1 : i < sz := by rw [← hsz d (List.mem_of_getElem? hj)]; exact (List.getElem?_eq_some_iff.1 hc').1
        refine ⟨vals j i, ?_, hr j i d c' hj hc'⟩
        have hlt : j * sz + i < xs.length * sz := by
          have : (j + 1) * sz ≤ xs.length * sz := Nat.mul_le_mul_right _ hj1
          rw [Nat.add_mul] at this; omega
        rw [List.getElem?_map, List.getElem?_range hlt]
        simp only [Option.map_some]
        rw [Nat.mul_comm j sz, Nat.mul_add_div (by omega), Nat.div_eq_of_lt hi1, Nat.mul_add_mod, Nat.mod_eq_of_lt hi1]
        simp
      · have hlt : q < xs.length * sz := by have := (List.getElem?_eq_some_iff.1 hq).1; simpa using this
        rw [List.getElem?_map, List.getElem?_range hlt] at hq
        injection hq with hq
        obtain ⟨h0, h1, h2⟩ := hcell q hlt
        have := hphi _ _ (hΦ _ _ h1 h2)
        rw [Nat.mul_comm, Nat.div_add_mod] at this
        rw [this]; exact congrArg some hq
      · obtain ⟨q, hq, rfl⟩ := List.mem_map.1 hu
        obtain ⟨h0, h1, h2⟩ := hcell q (List.mem_range.1 hq)
        have hd := List.getElem?_eq_getElem h1
        have hcl : (q % sz) < (xs[q / sz]).cells.length := by rw [hsz _ (List.getElem_mem h1)]; exact h2
        exact (hr _ _ _ _ hd (List.getElem?_eq_getElem hcl)).one (hf _ (List.getElem_mem h1) _ (List.getElem_mem hcl))

theorem flat_relD {Φ : Mem} {z : Nat} {xs : List Dat} {inner : List Value} (h : FlatRel Φ z xs inner) (hz : ∀ d ∈ xs, d.cells.length = z) (hf : ∀ d ∈ xs, ∀ c ∈ d.cells, c.flat = true) (A : Option Addr) (ad : Addr) (c : Nat) (hA : 0 < xs.length → A = some ad)
    (hc : xs.length ≤ c) (hm : xs.length ≤ maxLen) (hΦ : ∀ (q : Nat) (u : Value), inner[q]? = some u → Φ (ad.add q) = some u) : RelD Φ (.sl xs) (.slice A xs.length c) := by
  have hin : ∀ j i, j < xs.length → i < z → j * z + i < inner.length := by
    intro j i hj hi
    have : (j + 1) * z ≤ xs.length * z := Nat.mul_le_mul_right _ hj
    rw [Nat.add_mul] at this; rw [h.1]; omega
  refine .sl xs A ad c z (fun j i => inner.getD (j * z + i) Go.undef) hc hm hA hz hf (fun j i hj hi => ?_) (fun j i d c' hj hc' => ?_)
  · have := List.getElem?_eq_getElem (hin j i hj hi)
    rw [List.getD_eq_getElem?_getD, this]
    exact hΦ _ _ this
  · obtain ⟨u, h1, h2⟩ := h.2 j d i c' hj hc'
    rw [List.getD_eq_getElem?_getD, h1]
    exact h2

theorem own_block_lt {w : World} {base : Nat} {e : TypeId} {size n : Nat} {v : Value} {xs : List Value} (h : w.ownsRow base e size v n xs) {g : Nat} (hg : v.ownBlock = some g) : g < w.heap.size ∧ base ≤ g ∧ v ≠ .slice none 0 0 := by
  rcases h.2 with ⟨rfl, _⟩ | ⟨g', cap, cur, rfl, hb, hh, _⟩
  · simp [Value.ownBlock] at hg
  · have : g' = g := by simpa [Value.ownBlock] using hg
    subst this
    exact ⟨(Array.getElem?_eq_some_iff.1 hh).1, hb, by simp⟩

theorem own_cells {w : World} {base : Nat} {e : TypeId} {size n : Nat} {v : Value} {xs : List Value} (h : w.ownsRow base e size v n xs) {g : Nat} (hg : v.ownBlock = some g) :
    ∀ q, q < n * size → w.cell? ⟨g, q, none⟩ = xs[q]? := by
  intro q hq
  rcases h.2 with ⟨rfl, _⟩ | ⟨g', cap, cur, rfl, hb, hh, hnc, hcm, hcs, ht⟩
  · simp [Value.ownBlock] at hg
  · have : g' = g := by simpa [Value.ownBlock] using hg
    subst this
    rw [cell_of_row w g' q cur e (0, 0) hh, ← ht, List.getElem?_take_of_lt hq]
    simp

/-- The memory that is read only, with a row's cells below n. -/
def rowExt (f : Mem) (v : Value) (n : Nat) (w : World) : Mem := fun a => if v.ownBlock = some a.block ∧ a.off < n then w.cell? a else f a

theorem Inv.grow {base : Nat} {E : Env} {s : ASt} {tm : Array Value} {w w' : World} (h : Inv base E s tm w) (d e z : Nat) (v v' : Value) (n n' : Nat) (inner inner' : List Value)
    (hd : E.γ d = none) (ho : w.ownsRow base e z v n inner) (hsep : ∀ g, v.ownBlock = some g → (∀ a : Addr, a.block = g → n * z ≤ a.off → E.Ψ a = none) ∧ (∀ t, E.β t ≠ some g) ∧ ∀ k u e' z', E.γ k = some (u, e', z') → u.ownBlock ≠ some g)
    (ho' : w'.ownsRow base e z v' n' (inner ++ inner')) (hn : n ≤ n') (hg : w.grownBy w' v'.ownBlock) (hat : v'.ownBlock = v.ownBlock ∨ v'.ownBlock = some w.heap.size) :
    let E' : Env := { E with Φ := rowExt E.Φ v' (n' * z) w', Ψ := rowExt E.Ψ v' (n' * z) w', γ := upd E.γ d (some (v', e, z)) }
    Inv base E' s tm w' ∧ E.le E' ∧ Ext base E E' ∧ Below base w w' := by
  intro E'
  have hnz : n * z ≤ n' * z := Nat.mul_le_mul_right _ hn
  -- what was read only reads as it did
  have hold : ∀ a u, E.Ψ a = some u → w'.cell? a = some u := by
    intro a u ha
    have hw := h.psi a u ha
    have hlt := World.block_lt_of_cell? w a hw
    by_cases hb : v'.ownBlock = some a.block
    · have hv : v.ownBlock = some a.block := by
        rcases hat with hat | hat
        · rw [← hat]; exact hb
        · rw [hat] at hb; injection hb with hb; omega
      have hoff : a.off < n * z := by
        rcases Nat.lt_or_ge a.off (n * z) with hx | hx
        · exact hx
        · rw [(hsep _ hv).1 a rfl hx] at ha; cases ha
      have hsp : a.spot = none := by
        cases hs : a.spot with
        | none => rfl
        | some x =>
          have : w.cell? a = none := by simp only [World.cell?]; split <;> simp [hs]
          rw [this] at hw; cases hw
      have ea : a = ⟨a.block, a.off, none⟩ := by cases a; simp_all
      have h1 := own_cells ho hv a.off hoff
      have h2 := own_cells ho' hb a.off (by omega)
      rw [← ea] at h1 h2
      rw [h2, List.getElem?_append_left (by rw [ho.1]; exact hoff), ← h1]
      exact hw
    · rw [World.cell?_of_block (w := w) (hg.block a.block hlt (fun he => hb he.symm))]
      exact hw
  have hle : E.le E' := by
    refine ⟨fun a u ha => ?_, fun a u ha => ?_, fun _ _ h => h, fun k x hk => ?_⟩
    · show rowExt E.Φ v' (n' * z) w' a = some u
      unfold rowExt; split
      · exact hold a u (h.sub a u ha)
      · exact ha
    · show rowExt E.Ψ v' (n' * z) w' a = some u
      unfold rowExt; split
      · exact hold a u ha
      · exact ha
    · show (if k = d then some (v', e, z) else E.γ k) = some x
      rw [if_neg (fun he => by rw [he, hd] at hk; cases hk)]; exact hk
  have hpsi : ∀ a u, E'.Ψ a = some u → w'.cell? a = some u := by
    intro a u ha
    have ha' : rowExt E.Ψ v' (n' * z) w' a = some u := ha
    unfold rowExt at ha'
    split at ha'
    · exact ha'
    · exact hold a u ha'
  have hblk : ∀ k, k < w.heap.size → v'.ownBlock ≠ some k → w'.heap[k]? = w.heap[k]? := fun k hk hne => hg.block k hk (fun he => hne he.symm)
  have hbase' : ∀ g, v'.ownBlock = some g → base ≤ g := fun g hgb => (own_block_lt ho' hgb).2.1
  have hnob : ∀ g b t, v'.ownBlock = some g → E.β t = some b → b ≠ g := by
    rintro g b t hgb hb rfl
    rcases hat with hat | hat
    · exact (hsep b (by rw [← hat]; exact hgb)).2.1 t hb
    · rw [hat] at hgb; injection hgb with hgb
      have := (h.bsep t b hb).2.1; omega
  have hnorow : ∀ g k u e' z', v'.ownBlock = some g → E.γ k = some (u, e', z') → u.ownBlock ≠ some g := by
    intro g k u e' z' hgb hk hu
    rcases hat with hat | hat
    · exact (hsep g (by rw [← hat]; exact hgb)).2.2 k u e' z' hk hu
    · rw [hat] at hgb; injection hgb with hgb
      obtain ⟨n0, i0, hr, _⟩ := h.row k u e' z' hk
      have := (own_block_lt hr hu).1; omega
  refine ⟨⟨fun i => (h.tm i).mono hle, fun a u ha => ?_, hpsi, fun a u ha => ?_, fun t cs hc => ?_, fun t b hb => ?_, h.binj, fun k u e' z' hk => ?_, fun k k' u u' e1 e2 z1 z2 g hk hk' => ?_, Nat.le_trans h.hb hg.size, h.hn⟩, hle,
    ⟨hle.phi, hle.psi, fun a u ha => ?_, fun a u ha => ?_⟩, (Below.refl base w).grown hg h.hb hbase'⟩
  · have ha' : rowExt E.Φ v' (n' * z) w' a = some u := ha
    unfold rowExt at ha'
    split at ha'
    · exact ha'
    · exact hold a u (h.sub a u ha')
  · have ha' : rowExt E.Φ v' (n' * z) w' a = some u := ha
    show rowExt E.Ψ v' (n' * z) w' a = some u
    unfold rowExt at ha' ⊢
    split at ha'
    · rename_i hc; rw [if_pos hc]; exact ha'
    · rename_i hc; rw [if_neg hc]; exact h.sub a u ha'
  · obtain ⟨b, c, e', h1, h2, h3, h4, h5⟩ := h.box t cs hc
    refine ⟨b, c, e', h1, (hblk b (h.bsep t b h1).2.1 (fun hgb => hnob b b t hgb h1 rfl)).trans h2, h3, h4, fun i p u hp hu => ⟨(h5 i p u hp hu).1.mono hle, (h5 i p u hp hu).2⟩⟩
  · obtain ⟨h1, h2, h3⟩ := h.bsep t b hb
    refine ⟨h1, Nat.lt_of_lt_of_le h2 hg.size, fun a ha => ?_⟩
    show rowExt E.Ψ v' (n' * z) w' a = none
    unfold rowExt
    rw [if_neg (fun hc => hnob a.block b t hc.1 hb ha.symm)]
    exact h3 a ha
  · have hk' : (if k = d then some (v', e, z) else E.γ k) = some (u, e', z') := hk
    split at hk'
    · injection hk' with hk'; injection hk' with q1 q2; injection q2 with q2 q3
      subst q1 q2 q3
      refine ⟨n', inner ++ inner', ho', fun g hgb => ⟨fun a ha hoff => ?_, fun t ht => hnob g g t hgb ht rfl⟩⟩
      show rowExt E.Ψ v' (n' * z) w' a = none
      unfold rowExt
      rw [if_neg (fun hc => by omega)]
      rcases hat with hat | hat
      · exact (hsep g (by rw [← hat]; exact hgb)).1 a ha (by omega)
      · rw [hat] at hgb; injection hgb with hgb
        cases hx : E.Ψ a with
        | none => rfl
        | some x => have := h.psi_lt hx; omega
    · obtain ⟨n0, i0, hr, hs⟩ := h.row k u e' z' hk'
      refine ⟨n0, i0, ?_, fun g hgb => ⟨fun a ha hoff => ?_, (hs g hgb).2⟩⟩
      · obtain ⟨h1, h2⟩ := hr
        refine ⟨h1, ?_⟩
        rcases h2 with h2 | ⟨g, cap, cur, hv, hb, hh, r⟩
        · exact .inl h2
        · exact .inr ⟨g, cap, cur, hv, hb, (hblk g (Array.getElem?_eq_some_iff.1 hh).1 (fun hgb => hnorow g k u e' z' hgb hk' (by rw [hv]; rfl))).trans hh, r⟩
      · show rowExt E.Ψ v' (n' * z) w' a = none
        unfold rowExt
        rw [if_neg (fun hc => hnorow a.block k u e' z' hc.1 hk' (by rw [hgb, ha]))]
        exact (hs g hgb).1 a ha hoff
  · have g1 : (if k = d then some (v', e, z) else E.γ k) = some (u, e1, z1) := hk
    have g2 : (if k' = d then some (v', e, z) else E.γ k') = some (u', e2, z2) := hk'
    intro q1 q2
    by_cases c1 : k = d <;> by_cases c2 : k' = d
    · rw [c1, c2]
    · rw [if_pos c1] at g1; rw [if_neg c2] at g2
      injection g1 with g1; injection g1 with g1; subst g1
      exact absurd q2 (hnorow g k' u' e2 z2 q1 g2)
    · rw [if_neg c1] at g1; rw [if_pos c2] at g2
      injection g2 with g2; injection g2 with g2; subst g2
      exact absurd q1 (hnorow g k u e1 z1 q2 g1)
    · rw [if_neg c1] at g1; rw [if_neg c2] at g2
      exact h.rinj k k' u u' e1 e2 z1 z2 g g1 g2 q1 q2
  · have ha' : rowExt E.Ψ v' (n' * z) w' a = some u := ha
    unfold rowExt at ha'
    split at ha'
    · rename_i hc; exact .inr (hbase' _ hc.1)
    · exact .inl ha'
  · have ha' : rowExt E.Φ v' (n' * z) w' a = some u := ha
    unfold rowExt at ha'
    split at ha'
    · rename_i hc; exact .inr (hbase' _ hc.1)
    · exact .inl ha'

end Go.Abs

/- The operations' soundness: those that are no calls of functions. -/
set_option linter.unusedVariables false
set_option linter.unusedSimpArgs false
namespace Go.Abs
open Go Go.RowKit

def Ok1 (P : Program) (base : Nat) (E : Env) (s' : ASt) (a : Act) (o : Oper) (w : World) : Prop :=
  ∃ v w' E', ((execOp a.eval o).run P w = .ok (.value v) w' ∨ ((execOp a.eval o).run P w = .ok .skip w' ∧ v = Go.undef)) ∧ Inv base E' s' (putT a.tmps o.dst v) w' ∧ Below base w w' ∧ ExtF base E w E' w'

section
variable {P : Program} {base : Nat} {E : Env} {s s' : ASt} {a : Act} {o : Oper} {w : World} {mb : List Nat}

theorem Ok1.val {p : PVal} {v : Value} (hI : Inv base E s a.tmps w) (hd : dstOk a.tmps.size o.dst = true) (hrun : (execOp a.eval o).run P w = .ok (.value v) w) (hr : RelP E p v)
    (happ : applyR o.dst s (.val p) = some s') : Ok1 P base E s' a o w := by
  simp only [applyR] at happ
  injection happ with happ; subst happ
  exact ⟨v, w, E, .inl hrun, hI.put o.dst hr hd, Below.refl _ _, ExtF.refl _ _ _⟩

theorem run_v {x : Sem Value} {v : Value} {w' : World} (h : x.run P w = .ok v w') : (do let y ← x; pure (Next.value y) : Sem Next).run P w = .ok (.value v) w' := by
  simp [Sem.run_bind, h]

theorem ok_move {x : Operand} (hI : Inv base E s a.tmps w) (hd : dstOk a.tmps.size o.dst = true) (hop : o.op = .move x ∨ o.op = .assign x) (happ : applyR o.dst s (.val (s.eval x)) = some s') : Ok1 P base E s' a o w := by
  refine Ok1.val hI hd ?_ (hI.eval x) happ
  rcases hop with hop | hop <;> simp [execOp, hop]

theorem ok_pick {c x y : Operand} {r : Res} (hI : Inv base E s a.tmps w) (hd : dstOk a.tmps.size o.dst = true) (hop : o.op = .pick c x y) (h : sem P mb o.dst s (.pick c x y) = some r) (happ : applyR o.dst s r = some s') : Ok1 P base E s' a o w := by
  simp only [sem] at h
  split at h
  · rename_i b hc
    injection h with h; subst h
    have h1 := hI.eval c
    rw [hc] at h1
    cases h1 with
    | dat d v h1 =>
      generalize hv : a.eval c = v at h1
      cases h1
      have hr : RelP E (if b then s.eval x else s.eval y) (if b then a.eval x else a.eval y) := by
        cases b
        · exact hI.eval y
        · exact hI.eval x
      refine Ok1.val hI hd ?_ hr happ
      cases b <;> simp [execOp, hop, hv, asBool]
  · cases h

theorem ok_load {t : Nat} {x : Operand} {r : Res} (hI : Inv base E s a.tmps w) (hd : dstOk a.tmps.size o.dst = true) (hop : o.op = .load t x) (h : sem P mb o.dst s (.load t x) = some r) (happ : applyR o.dst s r = some s') : Ok1 P base E s' a o w := by
  simp only [sem] at h
  have hx := hI.eval x
  split at h
  · rename_i ag hag
    split at h
    · rename_i cs hc
      rw [hc] at hx
      obtain ⟨p, hld, rfl⟩ := Option.map_eq_some_iff.1 h
      generalize hv : a.eval x = v at hx
      cases hx with
      | cptr cs ad vals hΨ hf h1 hr =>
        obtain ⟨u, hu, hru⟩ := load_rel (P := P) (E := E) (w := w) hag hld ad vals (fun i hi => by simpa using hI.psi _ _ (hΨ i (by omega))) hf h1 hr
        refine Ok1.val hI hd ?_ hru happ
        simp [execOp, hop, hv, Instr.loadAt, Instr.sureAddr, hu]
    · rename_i b off hc
      rw [hc] at hx
      split at h
      · rename_i cs hcs
        obtain ⟨p, hld, rfl⟩ := Option.map_eq_some_iff.1 h
        generalize hv : a.eval x = v at hx
        cases hx with
        | bptr t' off' b' hb =>
          obtain ⟨b2, c, e, h1, h2, h3, h4, h5⟩ := hI.box b cs hcs
          rw [hb] at h1; injection h1 with h1; subst h1
          obtain ⟨u, hu, hru⟩ := load_rel (P := P) (E := E) (w := w) hag hld ⟨b', off, none⟩ (fun i => c.getD i Go.undef) (fun i hi => by
              rw [addr_mk_add, cell_of_row w b' _ c e (0, 0) h2, Array.getElem?_eq_getElem (by omega)]
              simp [show off + i < c.size by omega]) h4 (fun i hi => by
              have := (h5 i cs[i] (c[i]'(by omega)) (List.getElem?_eq_getElem hi) (Array.getElem?_eq_getElem (by omega))).2
              simpa [show i < c.size by omega] using this) (fun i p hp => by
              have hi := (List.getElem?_eq_some_iff.1 hp).1
              have := (h5 i p (c[i]'(by omega)) hp (Array.getElem?_eq_getElem (by omega))).1
              simpa [show i < c.size by omega] using this)
          refine Ok1.val hI hd ?_ hru happ
          simp [execOp, hop, hv, Instr.loadAt, Instr.sureAddr, hu]
      · cases h
    · cases h
  · cases h

theorem ok_store {t : Nat} {x y : Operand} {r : Res} (hI : Inv base E s a.tmps w) (hd : dstOk a.tmps.size o.dst = true) (hop : o.op = .store t x y) (h : sem P mb o.dst s (.store t x y) = some r) (happ : applyR o.dst s r = some s') : Ok1 P base E s' a o w := by
  simp only [sem] at h
  have hx := hI.eval x
  have hy := hI.eval y
  split at h
  · rename_i b off hc
    rw [hc] at hx
    split at h
    · rename_i cs n hcs hi0
      obtain ⟨i, hi, rfl⟩ := Option.map_eq_some_iff.1 hi0
      split at h
      · rename_i hcond
        obtain ⟨hlen, hfl⟩ := hcond
        obtain ⟨cs', hst, rfl⟩ := Option.map_eq_some_iff.1 h
        generalize hv : a.eval x = v at hx
        cases hx with
        | bptr t' off' b' hb =>
          obtain ⟨b2, c, e, h1, h2, h3, h4, h5⟩ := hI.box b cs hcs
          rw [hb] at h1; injection h1 with h1; subst h1
          obtain ⟨g1, g2⟩ := cells_rel hy hfl
          unfold stAt at hst
          split at hst
          · rename_i hfit
            injection hst with hst; subst hst
            simp only [applyR] at happ
            injection happ with happ; subst happ
            have hone : ∀ u ∈ (a.eval y).cells.toList, u.oneCell' = true := by
              intro u hu
              obtain ⟨k, hk, rfl⟩ := List.getElem_of_mem hu
              have hk' : k < (s.eval y).cells.length := by rw [← g1]; simpa using hk
              exact (g2 k _ _ (List.getElem?_eq_getElem hk') (by simp at hk ⊢)).2
            have hrun : (storeCells ⟨b', off, none⟩ (a.eval y).cells.toList).run P w = .ok () (w.setRow b' (c.toList.take off ++ (a.eval y).cells.toList ++ c.toList.drop (off + (a.eval y).cells.toList.length)).toArray) := by
              have := run_storeCells_at (P := P) b' off e (a.eval y).cells.toList 0 c w h2 (by simp; omega) hone
              simpa using this
            have hsz : (a.eval y).cells.size = i.size := by omega
            obtain ⟨k1, k2⟩ := hI.setBox b hb (c := (c.toList.take off ++ (a.eval y).cells.toList ++ c.toList.drop (off + (a.eval y).cells.toList.length)).toArray) h2 (cs.take off ++ (s.eval y).cells ++ cs.drop (off + (s.eval y).cells.length))
              (by simp only [List.size_toArray, List.length_append, List.length_take, List.length_drop, Array.length_toList, g1, h3]) (fun p hp => by
                rcases List.mem_append.1 hp with hp | hp
                · rcases List.mem_append.1 hp with hp | hp
                  · exact h4 p (List.mem_of_mem_take hp)
                  · exact .inl (List.all_eq_true.1 hfl p hp)
                · exact h4 p (List.mem_of_mem_drop hp)) (fun k p u hp hu => by
                have hl0 : (List.take off cs).length = off := by rw [List.length_take]; omega
                have hl0' : (List.take off c.toList).length = off := by rw [List.length_take, Array.length_toList]; omega
                simp only [List.getElem?_toArray] at hu
                rcases Nat.lt_or_ge k off with hk | hk
                · rw [List.append_assoc, List.getElem?_append_left (by omega), List.getElem?_take_of_lt hk] at hp hu
                  exact h5 k p u hp (by simpa using hu)
                · rcases Nat.lt_or_ge k (off + (s.eval y).cells.length) with hk2 | hk2
                  · rw [List.append_assoc, List.getElem?_append_right (by omega), List.getElem?_append_left (by omega)] at hp
                    rw [List.append_assoc, List.getElem?_append_right (by omega), List.getElem?_append_left (by simp; omega)] at hu
                    rw [hl0] at hp; rw [hl0'] at hu
                    exact g2 _ p u hp (by simpa using hu)
                  · rw [List.append_assoc, List.getElem?_append_right (by omega), List.getElem?_append_right (by omega), List.getElem?_drop] at hp
                    rw [List.append_assoc, List.getElem?_append_right (by omega), List.getElem?_append_right (by simp; omega), List.getElem?_drop] at hu
                    rw [hl0] at hp; rw [hl0'] at hu
                    have e1 : off + (s.eval y).cells.length + (k - off - (s.eval y).cells.length) = k := by omega
                    have e2 : off + (a.eval y).cells.toList.length + (k - off - (a.eval y).cells.toList.length) = k := by simp; omega
                    rw [e1] at hp; rw [e2] at hu
                    exact h5 k p u hp (by simpa using hu))
            refine ⟨Go.undef, _, E, .inr ⟨?_, rfl⟩, k1.put o.dst .undef hd, k2, Ext.refl _ _, fun k hk hn => setRow_other w b' k _ (fun e => hn (.inl ⟨_, by subst e; exact hb⟩)), by simp [World.setRow], fun k h => .inl h⟩
            simp [execOp, hop, hv, Instr.storeAt, Instr.sureAddr, storeVar, sizeOf, typeInfo, hi, hsz, hrun]
          · cases hst
      · cases h
    · cases h
  · cases h
end
end Go.Abs

/- More operations: memory that is made, fields, elements, numbers. -/
set_option linter.unusedVariables false
set_option linter.unusedSimpArgs false
namespace Go.Abs
open Go Go.RowKit
section
variable {P : Program} {base : Nat} {E : Env} {s s' : ASt} {a : Act} {o : Oper} {w : World} {mb : List Nat}

theorem zero_cells {z : Value} (hf : (z.cells.toList.map constC).all PVal.flat = true) (E : Env) : ∀ (i : Nat) (p : PVal) (v : Value), (z.cells.toList.map constC)[i]? = some p → z.cells[i]? = some v → RelP E p v ∧ v.oneCell' = true := by
  intro i p v hp hv
  rw [List.getElem?_map] at hp
  obtain ⟨u, hu, rfl⟩ := Option.map_eq_some_iff.1 hp
  have : u = v := by
    have h1 : z.cells.toList[i]? = some v := by simpa using hv
    rw [h1] at hu; injection hu with hu; exact hu.symm
  subst this
  have hfl : (constC u).flat = true := List.all_eq_true.1 hf _ (List.mem_map.2 ⟨u, List.mem_of_getElem? hu, rfl⟩)
  exact ⟨constC_rel E u, constC_one hfl⟩

theorem rel_int {E : Env} {k : IntKind} {n : Int} {v : Value} (h : RelP E (.dat (.int k n)) v) : v = .int k n := by
  cases h with | dat _ _ h => cases h; rfl
theorem rel_str {E : Env} {b : ByteArray} {v : Value} (h : RelP E (.dat (.str b)) v) : v = .string b := by
  cases h with | dat _ _ h => cases h; rfl
theorem rel_bool {E : Env} {b : Bool} {v : Value} (h : RelP E (.dat (.bool b)) v) : v = .bool b := by
  cases h with | dat _ _ h => cases h; rfl
theorem run_info {t : Nat} {ti : TypeInfo} (h : P.info? t = some ti) (w : World) : (typeInfo t).run P w = .ok ti w := by simp [typeInfo, h]
theorem run_zero {t : Nat} {ti : TypeInfo} {z : Value} (h : P.info? t = some ti) (hz : ti.zero = some z) (w : World) : (zeroValue t).run P w = .ok z w := by simp [zeroValue, typeInfo, h, hz]
theorem run_size {t : Nat} {ti : TypeInfo} (h : P.info? t = some ti) (w : World) : (sizeOf t).run P w = .ok ti.size w := by simp [sizeOf, typeInfo, h]

/-- A new box, its dst told. -/
theorem Ok1.newB {nm d : Nat} {cs : List PVal} {c : Array Value} {e : Nat} {p' : PVal} {v : Value} (hI : Inv base E s a.tmps w) (hd : dstOk a.tmps.size o.dst = true) (hdst : o.dst = some d)
    (hrun : (execOp a.eval o).run P w = .ok (.value v) (w.alloc (.cells c e))) (hl : c.size = cs.length) (hf : ∀ p ∈ cs, p.flat = true ∨ p = .top)
    (hr : ∀ (i : Nat) (p : PVal) (v : Value), cs[i]? = some p → c[i]? = some v → RelP E p v ∧ v.oneCell' = true)
    (hp : ∀ E' : Env, E'.β nm = some w.heap.size → RelP E' p' v) :
    Ok1 P base E { t := upd (s.kill nm).t d p', h := upd (s.kill nm).h nm (some (kills nm cs)) } a o w := by
  obtain ⟨k1, k2⟩ := (hI.kill nm).newBox nm (by simp [Env.kill]) (by simp [ASt.kill]) (kills nm cs) c e (by rw [kills_length]; exact hl) (kill_mem_flat hf) (fun i p v hp hv => by
    rw [kills_get] at hp
    obtain ⟨q, hq, rfl⟩ := Option.map_eq_some_iff.1 hp
    exact ⟨(hr i q v hq hv).1.kill nm, (hr i q v hq hv).2⟩)
  refine ⟨v, _, _, .inl hrun, ?_, (Below.refl _ _).alloc hI.hb _, (Ext.kill base E nm).trans ⟨k2.phi, k2.psi, fun a v h => .inl h, fun a v h => .inl h⟩, Fr.alloc _ (fun k ho => ?_)⟩
  rotate_left
  · rcases ho with ⟨t, ht⟩ | ho
    · have ht' : (if t = nm then some w.heap.size else (E.kill nm).β t) = some k := ht
      split at ht'
      · injection ht' with ht'; right; omega
      · exact .inl (ownB_kill (.inl ⟨t, ht'⟩))
    · exact .inl (ownB_kill (.inr ho))
  have := k1.put o.dst (hp _ (by show upd (E.kill nm).β nm (some w.heap.size) nm = some w.heap.size; simp [upd])) hd
  rw [hdst] at this ⊢
  exact this

/-- A new box of which nothing was said. -/
theorem Ok1.newD {d : Nat} {cs : List PVal} {c : Array Value} {e : Nat} (hI : Inv base E s a.tmps w) (hd : dstOk a.tmps.size o.dst = true) (hdst : o.dst = some d) (hh : s.h d = none)
    (hrun : (execOp a.eval o).run P w = .ok (.value (.pointer (some ⟨w.heap.size, 0, none⟩))) (w.alloc (.cells c e))) (hl : c.size = cs.length) (hf : ∀ p ∈ cs, p.flat = true ∨ p = .top)
    (hr : ∀ (i : Nat) (p : PVal) (v : Value), cs[i]? = some p → c[i]? = some v → RelP E p v ∧ v.oneCell' = true) :
    Ok1 P base E (({ s with h := upd s.h d (some cs) } : ASt).put o.dst (.bptr d 0)) a o w := by
  obtain ⟨k1, k2⟩ := hI.newBox d (hI.hn d hh) hh cs c e hl hf hr
  refine ⟨_, _, _, .inl hrun, k1.put o.dst (.bptr d 0 _ ?_) hd, (Below.refl _ _).alloc hI.hb _, ⟨k2.phi, k2.psi, fun a v h => .inl h, fun a v h => .inl h⟩, Fr.alloc _ (fun k ho => ?_)⟩
  rotate_left
  · rcases ho with ⟨t, ht⟩ | ho
    · have ht' : (if t = d then some w.heap.size else E.β t) = some k := ht
      split at ht'
      · injection ht' with ht'; right; omega
      · exact .inl (.inl ⟨t, ht'⟩)
    · exact .inl (.inr ho)
  show upd E.β d (some w.heap.size) d = some w.heap.size
  simp [upd]

theorem ok_alloc {t : Nat} {r : Res} (hI : Inv base E s a.tmps w) (hd : dstOk a.tmps.size o.dst = true) (hop : o.op = .alloc t) (h : sem P mb o.dst s (.alloc t) = some r) (happ : applyR o.dst s r = some s') : Ok1 P base E s' a o w := by
  simp only [sem] at h
  split at h
  · rename_i i hi
    split at h
    · rename_i hf
      obtain ⟨ti, d, z, h1, h2, h3, rfl⟩ := tinf_spec hi
      cases hdst : o.dst with
      | none =>
        rw [hdst] at h happ
        split at h <;> (injection h with h; subst h; simp [applyR] at happ)
      | some d =>
       split at h
       · injection h with h; subst h
         rw [hdst] at happ
         simp only [applyR, Option.getD_some, if_true] at happ
         split at happ
         · rename_i hh
           injection happ with happ; subst happ
           have := Ok1.newD (P := P) (c := z.cells) (cs := z.cells.toList.map constC) (e := t) hI hd hdst hh (by simp [execOp, hop, Instr.alloc, run_zero h1 h3, newVar, newRow]) (by simp) (fun p hp => .inl (List.all_eq_true.1 hf p hp)) (zero_cells hf E)
           rw [hdst] at this
           exact this
         · cases happ
       · injection h with h; subst h
         rw [hdst] at happ
         simp only [applyR] at happ
         injection happ with happ; subst happ
         refine Ok1.newB (c := z.cells) (e := t) (v := .pointer (some ⟨w.heap.size, 0, none⟩)) hI hd hdst ?_ (by simp) (fun p hp => .inl (List.all_eq_true.1 hf p hp)) (zero_cells hf E) (fun E' hE => .bptr d 0 _ hE)
         simp [execOp, hop, Instr.alloc, run_zero h1 h3, newVar, newRow]
    · split at h
      · rename_i hnf
        injection h with h; subst h
        obtain ⟨ti, d, z, h1, h2, h3, rfl⟩ := tinf_spec hi
        have hz : z = .nilFunc := by
          unfold nilFn at hnf
          rw [h1] at hnf
          simp only [h3] at hnf
          cases z <;> first | rfl | simp at hnf
        subst hz
        cases hdst : o.dst with
        | none => rw [hdst] at happ; simp [applyR] at happ
        | some d =>
          rw [hdst] at happ
          simp only [applyR] at happ
          injection happ with happ; subst happ
          refine Ok1.newB (cs := [.top]) (c := #[.nilFunc]) (e := t) (v := .pointer (some ⟨w.heap.size, 0, none⟩)) hI hd hdst ?_ (by simp) (fun p hp => .inr (by simpa using hp)) (fun i p v hp hv => by
            cases i with
            | zero => simp at hp hv; subst hp; subst hv; exact ⟨.top _, rfl⟩
            | succ i => simp at hp) (fun E' hE => .bptr d 0 _ hE)
          simp [execOp, hop, Instr.alloc, run_zero h1 h3, newVar, newRow, Value.cells]
      · cases h
  · cases h

theorem ok_box {t : Nat} {x : Operand} {r : Res} (hI : Inv base E s a.tmps w) (hd : dstOk a.tmps.size o.dst = true) (hop : o.op = .box t x) (h : sem P mb o.dst s (.box t x) = some r) (happ : applyR o.dst s r = some s') : Ok1 P base E s' a o w := by
  simp only [sem] at h
  have hx := hI.eval x
  split at h
  · rename_i i hi
    obtain ⟨ti, d, z, h1, h2, h3, rfl⟩ := tinf_spec hi
    split at h
    · rename_i hc
      obtain ⟨hlen, hfl⟩ := hc
      obtain ⟨g1, g2⟩ := cells_rel hx hfl
      have hrun : (execOp a.eval o).run P w = .ok (.value (.pointer (some ⟨w.heap.size, 0, none⟩))) (w.alloc (.cells (a.eval x).cells t)) := by
        simp [execOp, hop, Instr.box, newVar, newRow]
      split at h
      · injection h with h; subst h
        cases hdst : o.dst with
        | none => rw [hdst] at happ; simp [applyR] at happ
        | some d =>
          rw [hdst] at happ
          simp only [applyR] at happ
          injection happ with happ; subst happ
          exact Ok1.newB (c := (a.eval x).cells) (e := t) hI hd hdst hrun g1 (fun p hp => .inl (List.all_eq_true.1 hfl p hp)) g2 (fun E' hE => .bptr d 0 _ hE)
      · injection h with h; subst h
        simp only [applyR] at happ
        injection happ with happ; subst happ
        obtain ⟨k1, k2, k3, k4⟩ := hI.alloc (a.eval x).cells t
        refine ⟨_, _, _, .inl hrun, k1.put o.dst ?_ hd, k4, k3, Fr.alloc _ (fun k h => .inl h)⟩
        have hget : ∀ i, i < (s.eval x).cells.length → (a.eval x).cells[i]? = some ((a.eval x).cells.getD i Go.undef) := fun i hi => by
          rw [Array.getElem?_eq_getElem (by omega)]; simp [show i < (a.eval x).cells.size by omega]
        refine .cptr _ ⟨w.heap.size, 0, none⟩ (fun i => (a.eval x).cells.getD i Go.undef) (fun i hi => ?_) (fun p hp => .inl (List.all_eq_true.1 hfl p hp)) (fun i hi => (g2 i _ _ (List.getElem?_eq_getElem hi) (hget i hi)).2) (fun i p hp => ?_)
        · show memExt E.Ψ w.heap.size (a.eval x).cells _ = _
          rw [addr_mk_add]
          simp only [memExt, if_true, Option.isSome_none, Nat.zero_add]
          exact hget i hi
        · exact (g2 i p _ hp (hget i (List.getElem?_eq_some_iff.1 hp).1)).1.mono k2
    · cases h
  · cases h

theorem ok_makeFunc {f : Nat} {first captured : Array Operand} {r : Res} (hI : Inv base E s a.tmps w) (hd : dstOk a.tmps.size o.dst = true) (hop : o.op = .makeFunc (.func f) first captured)
    (h : sem P mb o.dst s (.makeFunc (.func f) first captured) = some r) (happ : applyR o.dst s r = some s') : Ok1 P base E s' a o w := by
  simp only [sem] at h
  split at h
  · rename_i he
    injection h with h; subst h
    have hfe : first = #[] := by simpa using he
    subst hfe
    refine Ok1.val (v := .func (.func f) #[] (captured.map a.eval)) hI hd ?_ ?_ happ
    · simp [execOp, hop, Instr.makeFunc]
    · have := RelP.fn (E := E) f (captured.toList.map s.eval) (captured.toList.map a.eval) (by simp) (fun i p v hp hv => by
        rw [List.getElem?_map] at hp hv
        obtain ⟨x, hx, rfl⟩ := Option.map_eq_some_iff.1 hp
        rw [hx] at hv; injection hv with hv; subst hv
        exact hI.eval x)
      have e : (captured.toList.map a.eval).toArray = captured.map a.eval := by apply Array.ext'; simp
      rwa [e] at this
  · cases h

theorem ok_makeSlice {t : Nat} {l c : Operand} {r : Res} (hI : Inv base E s a.tmps w) (hd : dstOk a.tmps.size o.dst = true) (hop : o.op = .makeSlice t l c)
    (h : sem P mb o.dst s (.makeSlice t l c) = some r) (happ : applyR o.dst s r = some s') : Ok1 P base E s' a o w := by
  simp only [sem] at h
  have hl := hI.eval l
  have hc := hI.eval c
  split at h
  · rename_i e sz by_ zs hi
    obtain ⟨ti, d, z, h1, h2, h3, h4⟩ := tinf_spec hi
    injection h4 with h4 _ _ _
    obtain rfl := ofDesc_slice h4.symm
    split at h
    · rename_i j n m hj hln hcm
      obtain ⟨tj, dj, zj, j1, j2, j3, rfl⟩ := tinf_spec hj
      rw [hln] at hl; rw [hcm] at hc
      split at h
      · rename_i z1 hz1
        split at h
        · rename_i hcond
          obtain ⟨c1, rfl, c3, c4, c5, c6⟩ := hcond
          injection h with h; subst h
          have hv := rel_int hl
          have hv2 := rel_int hc
          simp only at hz1 c3 c5
          cases hdst : o.dst with
          | none => rw [hdst] at happ; simp [applyR] at happ
          | some d =>
            rw [hdst] at happ
            simp only [applyR] at happ
            injection happ with happ; subst happ
            obtain ⟨n, rfl⟩ := Int.eq_ofNat_of_zero_le c1
            have hzc : ∃ u, zj.cells.toList = [u] ∧ constC u = z1 := by
              cases hzl : zj.cells.toList with
              | nil => rw [hzl] at hz1; simp at hz1
              | cons u t => rw [hzl] at hz1; cases t with
                | nil => simp at hz1; exact ⟨u, rfl, hz1⟩
                | cons _ _ => simp at hz1
            obtain ⟨u, hu, rfl⟩ := hzc
            have hzz : zj.cells = #[u] := by apply Array.ext'; simpa using hu
            simp only [Int.toNat_natCast, List.length_replicate]
            refine Ok1.newB (c := Array.replicate n u) (e := e) (v := .slice (some ⟨w.heap.size, 0, none⟩) n n) hI hd hdst ?_ (by simp) (fun p hp => .inl (by rw [(List.mem_replicate.1 hp).2]; exact c6)) (fun i p v hp hv => ?_) (fun E' hE => .msl _ n _ _ hE (Nat.le_refl _) (by simp [maxLen]; omega))
            · have hm := run_make (P := P) w t e tj zj h2 j1 j3 .i64 .i64 n n (by omega) (Int.le_refl _) c3 c4
              have hrep : madeCells zj.cells (((n : Int).toNat) * tj.size) = Array.replicate n u := by
                apply Array.ext'
                rw [hzz, c5, Nat.mul_one, Int.toNat_natCast, toList_madeCells_one]; simp
              rw [hrep] at hm
              simp [execOp, hop, hv, hv2, hm]
            · have hi : i < n := by have := (List.getElem?_eq_some_iff.1 hp).1; simpa using this
              rw [List.getElem?_replicate, if_pos hi] at hp
              rw [Array.getElem?_replicate, if_pos hi] at hv
              injection hp with hp; injection hv with hv
              subst hp hv
              exact ⟨constC_rel E u, constC_one c6⟩
        · cases h
      · cases h
    · cases h
  · cases h
end
end Go.Abs

/- More operations: fields, elements, lengths, numbers. -/
set_option linter.unusedVariables false
set_option linter.unusedSimpArgs false
namespace Go.Abs
open Go Go.RowKit
section
variable {P : Program} {base : Nat} {E : Env} {s s' : ASt} {a : Act} {o : Oper} {w : World} {mb : List Nat}

theorem ok_nilCheck {x : Operand} {r : Res} (hI : Inv base E s a.tmps w) (hd : dstOk a.tmps.size o.dst = true) (hop : o.op = .nilCheck x) (h : sem P mb o.dst s (.nilCheck x) = some r) (happ : applyR o.dst s r = some s') : Ok1 P base E s' a o w := by
  simp only [sem] at h
  have hx := hI.eval x
  split at h
  · rename_i t off hc
    injection h with h; subst h
    rw [hc] at hx
    generalize hv : a.eval x = v at hx
    refine Ok1.val hI hd ?_ hx happ
    cases hx; simp [execOp, hop, hv]
  · rename_i cs hc
    injection h with h; subst h
    rw [hc] at hx
    generalize hv : a.eval x = v at hx
    refine Ok1.val hI hd ?_ hx happ
    cases hx; simp [execOp, hop, hv]
  · cases h

theorem ok_fieldAddr {t f : Nat} {x : Operand} {r : Res} (hI : Inv base E s a.tmps w) (hd : dstOk a.tmps.size o.dst = true) (hop : o.op = .fieldAddr t x f) (h : sem P mb o.dst s (.fieldAddr t x f) = some r) (happ : applyR o.dst s r = some s') : Ok1 P base E s' a o w := by
  simp only [sem] at h
  have hx := hI.eval x
  split at h
  · rename_i fs _ _ _ hi
    obtain ⟨ti, d, z, h1, h2, h3, h4⟩ := tinf_spec hi
    injection h4 with h4 _ _ _
    obtain ⟨gs, rfl, rfl, hn⟩ := ofDesc_struct h4.symm
    split at h
    · rename_i ft off hf
      rw [List.getElem?_map] at hf
      obtain ⟨g, hg, hgo⟩ := Option.map_eq_some_iff.1 hf
      simp only [Prod.mk.injEq] at hgo
      obtain ⟨rfl, rfl⟩ := hgo
      have hg' : gs[f]? = some g := by simpa using hg
      split at h
      · rename_i j hj
        obtain ⟨tj, dj, zj, j1, j2, j3, rfl⟩ := tinf_spec hj
        split at h
        · rename_i hpos
          have hne : tj.size ≠ 0 := by simp only at hpos; omega
          have hrun : ∀ ad : Addr, a.eval x = .pointer (some ad) → (execOp a.eval o).run P w = .ok (.value (.pointer (some (ad.add g.offset)))) w := by
            intro ad had
            simp [execOp, hop, had, Instr.fieldAt, run_underlying h2, hg', Instr.sureAddr, fieldPlace, run_size j1, hne]
          split at h
          · rename_i cs hc
            injection h with h; subst h
            rw [hc] at hx
            generalize hv : a.eval x = v at hx
            cases hx with
            | cptr cs ad vals hΨ hf h1 hr =>
              refine Ok1.val hI hd (hrun ad hv) (.cptr _ _ (fun i => vals (g.offset + i)) (fun i hi => ?_) (fun p hp => hf p (List.mem_of_mem_drop hp)) (fun i hi => h1 _ (by simp at hi; omega)) (fun i p hp => hr _ p (by rwa [List.getElem?_drop] at hp))) happ
              rw [addr_add_add]; exact hΨ _ (by simp at hi; omega)
          · rename_i b off hc
            injection h with h; subst h
            rw [hc] at hx
            generalize hv : a.eval x = v at hx
            cases hx with
            | bptr t' off' b' hb =>
              refine Ok1.val hI hd (hrun _ hv) ?_ happ
              rw [addr_mk_add]; exact .bptr _ _ _ hb
          · cases h
        · cases h
      · cases h
    · cases h
  · cases h

theorem part_rel {P : Program} {E : Env} {w : World} {t : Nat} {ag : Option Nat} (hag : aggSize P t = some ag) {cs : List PVal} {off : Nat} {p : PVal} (hld : ldAt ag cs off = some p)
    (vs : List Value) (hl : vs.length = cs.length) (hf : ∀ p ∈ cs, p.flat = true ∨ p = .top) (h1 : ∀ v ∈ vs, v.oneCell' = true) (hr : ∀ (i : Nat) (p : PVal) (v : Value), cs[i]? = some p → vs[i]? = some v → RelP E p v) :
    ∃ v, (part t vs.toArray off).run P w = .ok v w ∧ RelP E p v := by
  obtain ⟨g1, g2⟩ := aggSize_spec hag w
  cases ag with
  | none =>
    simp only [ldAt] at hld
    have hi := (List.getElem?_eq_some_iff.1 hld).1
    refine ⟨vs[off]'(by omega), ?_, hr off p _ hld (List.getElem?_eq_getElem (by omega))⟩
    simp [part, g1, show off < vs.length by omega]
  | some n =>
    simp only [ldAt] at hld
    split at hld
    · rename_i hle
      injection hld with hld; subst hld
      refine ⟨.agg ((vs.drop off).take n).toArray, ?_, mkAgg_rel (by simp; omega) (fun v hv => h1 v (List.mem_of_mem_drop (List.mem_of_mem_take hv))) (fun p hp => hf p (List.mem_of_mem_drop (List.mem_of_mem_take hp))) (fun i p v hp hv => ?_)⟩
      · have e : (vs.toArray.extract off (off + n)) = ((vs.drop off).take n).toArray := by
          apply Array.ext'
          simp [List.extract_eq_take_drop]
        simp [part, g1, g2 n rfl, e]
      · have hi : i < n := by have := (List.getElem?_eq_some_iff.1 hv).1; simp at this; omega
        rw [List.getElem?_take_of_lt hi, List.getElem?_drop] at hp hv
        exact hr _ p v hp hv
    · cases hld

theorem ok_field {t f : Nat} {x : Operand} {r : Res} (hI : Inv base E s a.tmps w) (hd : dstOk a.tmps.size o.dst = true) (hop : o.op = .field t x f) (h : sem P mb o.dst s (.field t x f) = some r) (happ : applyR o.dst s r = some s') : Ok1 P base E s' a o w := by
  simp only [sem] at h
  have hx := hI.eval x
  split at h
  · rename_i fs _ _ _ hi
    obtain ⟨ti, d, z, h1, h2, h3, h4⟩ := tinf_spec hi
    injection h4 with h4 _ _ _
    obtain ⟨gs, rfl, rfl, hn⟩ := ofDesc_struct h4.symm
    split at h
    · rename_i ft off hf
      rw [List.getElem?_map] at hf
      obtain ⟨g, hg, hgo⟩ := Option.map_eq_some_iff.1 hf
      simp only [Prod.mk.injEq] at hgo
      obtain ⟨rfl, rfl⟩ := hgo
      have hg' : gs[f]? = some g := by simpa using hg
      split at h
      · rename_i ag hag
        split at h
        · rename_i cs hc
          obtain ⟨p, hld, rfl⟩ := Option.map_eq_some_iff.1 h
          rw [hc] at hx
          generalize hv : a.eval x = v at hx
          cases hx with
          | dat _ _ hx =>
            cases hx with
            | agg cs vs hl hfl hr =>
              obtain ⟨u, hu, hru⟩ := part_rel (P := P) (E := E) (w := w) hag hld vs (by simpa using hl) (fun p hp => by
                  obtain ⟨c, hc', rfl⟩ := List.mem_map.1 hp
                  exact .inl (hfl c hc')) (fun v hv' => by
                  obtain ⟨k, hk, rfl⟩ := List.getElem_of_mem hv'
                  exact (hr k (cs[k]'(by omega)) _ (List.getElem?_eq_getElem (by omega)) (List.getElem?_eq_getElem hk)).one (hfl _ (List.getElem_mem (by omega)))) (fun i p v hp hv' => by
                  rw [List.getElem?_map] at hp
                  obtain ⟨c, hc', rfl⟩ := Option.map_eq_some_iff.1 hp
                  exact .dat _ _ (hr i c v hc' hv'))
              refine Ok1.val hI hd ?_ hru happ
              simp [execOp, hop, hv, Instr.field, run_underlying h2, hg', asAgg, hu]
        · rename_i cs hc
          obtain ⟨p, hld, rfl⟩ := Option.map_eq_some_iff.1 h
          rw [hc] at hx
          generalize hv : a.eval x = v at hx
          cases hx with
          | agg cs vs hl h1' hfl hr =>
            obtain ⟨u, hu, hru⟩ := part_rel (P := P) (E := E) (w := w) hag hld vs hl hfl h1' hr
            refine Ok1.val hI hd ?_ hru happ
            simp [execOp, hop, hv, Instr.field, run_underlying h2, hg', asAgg, hu]
        · cases h
      · cases h
    · cases h
  · cases h

theorem ok_extract {i : Nat} {x : Operand} {r : Res} (hI : Inv base E s a.tmps w) (hd : dstOk a.tmps.size o.dst = true) (hop : o.op = .extract x i) (h : sem P mb o.dst s (.extract x i) = some r) (happ : applyR o.dst s r = some s') : Ok1 P base E s' a o w := by
  simp only [sem] at h
  have hx := hI.eval x
  split at h
  · rename_i vs hc
    obtain ⟨p, hp, rfl⟩ := Option.map_eq_some_iff.1 h
    rw [hc] at hx
    generalize hv : a.eval x = v at hx
    cases hx with
    | tup cs us hl hr =>
      have hi := (List.getElem?_eq_some_iff.1 hp).1
      refine Ok1.val (v := us[i]'(by omega)) hI hd ?_ (hr i p _ hp (List.getElem?_eq_getElem (by omega))) happ
      simp [execOp, hop, hv, Instr.extract, show i < us.length by omega]
  · cases h

theorem ok_unOp {op : UnOp} {t : Nat} {x : Operand} {r : Res} (hI : Inv base E s a.tmps w) (hd : dstOk a.tmps.size o.dst = true) (hop : o.op = .unOp op t x) (h : sem P mb o.dst s (.unOp op t x) = some r) (happ : applyR o.dst s r = some s') : Ok1 P base E s' a o w := by
  simp only [sem] at h
  have hx := hI.eval x
  obtain ⟨p, hp, rfl⟩ := Option.map_eq_some_iff.1 h
  unfold semUn at hp
  split at hp
  · rename_i b hc
    injection hp with hp; subst hp
    rw [hc] at hx
    have hv := rel_bool hx
    refine Ok1.val hI hd ?_ (.dat _ _ (.bool _)) happ
    simp [execOp, hop, hv, Op.unary]
  · rename_i k n hc
    injection hp with hp; subst hp
    rw [hc] at hx
    have hv := rel_int hx
    refine Ok1.val hI hd ?_ (.dat _ _ (.int _ _)) happ
    simp [execOp, hop, hv, Op.unary, Op.intArith]
  · cases hp

theorem ok_convert {t t' : Nat} {x : Operand} {r : Res} (hI : Inv base E s a.tmps w) (hd : dstOk a.tmps.size o.dst = true) (hop : o.op = .convert t t' x) (h : sem P mb o.dst s (.convert t t' x) = some r) (happ : applyR o.dst s r = some s') : Ok1 P base E s' a o w := by
  simp only [sem] at h
  have hx := hI.eval x
  split at h
  · rename_i k1 _ _ _ k2 _ _ _ k3 n hi hj hc
    injection h with h; subst h
    obtain ⟨ti, d, z, h1, h2, h3, h4⟩ := tinf_spec hi
    injection h4 with h4 _ _ _
    obtain rfl := ofDesc_int h4.symm
    obtain ⟨tj, dj, zj, j1, j2, j3, j4⟩ := tinf_spec hj
    injection j4 with j4 _ _ _
    obtain rfl := ofDesc_int j4.symm
    rw [hc] at hx
    have hv := rel_int hx
    refine Ok1.val hI hd ?_ (.dat _ _ (.int _ _)) happ
    simp [execOp, hop, hv, convert, run_underlying h2, run_underlying j2, Conv.intToInt]
  · cases h

theorem listOf_rel {p : PVal} {v : Value} {xs : List Dat} (h : RelP E p v) (hl : listOf p = some xs) : RelD E.Φ (.sl xs) v := by
  cases h <;> simp [listOf] at hl
  · rename_i d h; cases d <;> simp at hl; subst hl; exact h
  · subst hl; exact RelD.sl [] none ⟨0, 0, none⟩ 0 0 (fun _ _ => Go.undef) (by simp) (by simp [maxLen]) (by simp) (by simp) (by simp) (by simp) (by simp)
  · subst hl; assumption

theorem ok_len {args : Array Operand} {ts : Array TypeId} {r : Res} (hI : Inv base E s a.tmps w) (hd : dstOk a.tmps.size o.dst = true) (hop : o.op = .call ⟨.builtin .len, args, ts⟩) (h : sem P mb o.dst s (.call ⟨.builtin .len, args, ts⟩) = some r) (happ : applyR o.dst s r = some s') : Ok1 P base E s' a o w := by
  simp only [sem] at h
  split at h
  · rename_i x t hx ht
    have hax : args = #[x] := by apply Array.ext'; simpa using hx
    have hat : ts = #[t] := by apply Array.ext'; simpa using ht
    subst hax hat
    have hx := hI.eval x
    split at h
    · rename_i _ _ _ hi
      obtain ⟨ti, d, z, h1, h2, h3, h4⟩ := tinf_spec hi
      injection h4 with h4 _ _ _
      obtain rfl := ofDesc_string h4.symm
      split at h
      · rename_i b hc
        injection h with h; subst h
        rw [hc] at hx
        have hv := rel_str hx
        refine Ok1.val hI hd ?_ (.dat _ _ (.int _ _)) happ
        simp [execOp, hop, hv, resolve, invoke, builtin, Builtin.len_, run_underlying h2, goInt]
      · cases h
    · rename_i e _ _ _ hi
      obtain ⟨ti, d, z, h1, h2, h3, h4⟩ := tinf_spec hi
      injection h4 with h4 _ _ _
      obtain rfl := ofDesc_slice h4.symm
      have hrun : ∀ A n c, a.eval x = .slice A n c → (execOp a.eval o).run P w = .ok (.value (.int .i64 (n : Int))) w := by
        intro A n c hv
        simp [execOp, hop, hv, resolve, invoke, builtin, Builtin.len_, run_underlying h2, goInt]
      split at h
      · cases h
      · rename_i hns
        obtain ⟨p, hp, rfl⟩ := Option.map_eq_some_iff.1 h
        unfold semLen at hp
        split at hp
        · rename_i b hc; exact absurd hc (hns b)
        · rename_i xs hc
          injection hp with hp; subst hp
          rw [hc] at hx
          generalize hv : a.eval x = v at hx
          cases hx with
          | fsl xs A ad c vals hc hm hA hΨ hf h1 hr => exact Ok1.val hI hd (hrun _ _ _ hv) (.dat _ _ (.int _ _)) happ
        · rename_i t' n hc
          injection hp with hp; subst hp
          rw [hc] at hx
          generalize hv : a.eval x = v at hx
          cases hx with
          | msl t n b c h hc hm => exact Ok1.val hI hd (hrun _ _ _ hv) (.dat _ _ (.int _ _)) happ
        · obtain ⟨xs, hl, rfl⟩ := Option.map_eq_some_iff.1 hp
          have hr := listOf_rel hx hl
          generalize hv : a.eval x = v at hr
          cases hr with
          | sl xs A ad c sz vals hc hm hA hsz hf hΦ hr => exact Ok1.val hI hd (hrun _ _ _ hv) (.dat _ _ (.int _ _)) happ
    · cases h
  · cases h

theorem ok_index {t : Nat} {x i : Operand} {r : Res} (hI : Inv base E s a.tmps w) (hd : dstOk a.tmps.size o.dst = true) (hop : o.op = .index t x i) (h : sem P mb o.dst s (.index t x i) = some r) (happ : applyR o.dst s r = some s') : Ok1 P base E s' a o w := by
  simp only [sem] at h
  have hx := hI.eval x
  have hy := hI.eval i
  split at h
  · rename_i _ _ _ b k n hi hc hn
    obtain ⟨ti, d, z, h1, h2, h3, h4⟩ := tinf_spec hi
    injection h4 with h4 _ _ _
    obtain rfl := ofDesc_string h4.symm
    split at h
    · rename_i h0
      split at h
      · rename_i c hcc
        injection h with h; subst h
        rw [hc] at hx; rw [hn] at hy
        have hv := rel_str hx
        have hv2 := rel_int hy
        refine Ok1.val hI hd ?_ (.dat _ _ (.int _ _)) happ
        simp [execOp, hop, hv, hv2, Instr.index, asIntOf, run_underlying h2, h0, hcc]
      · cases h
    · cases h
  · cases h
end
end Go.Abs

/- More operations: elements' addresses, cuts, comparisons. -/
set_option linter.unusedVariables false
set_option linter.unusedSimpArgs false
namespace Go.Abs
open Go Go.RowKit
section
variable {P : Program} {base : Nat} {E : Env} {s s' : ASt} {a : Act} {o : Oper} {w : World} {mb : List Nat}

theorem dat_map_get (cs : List Dat) (i : Nat) (p : PVal) (h : (cs.map PVal.dat)[i]? = some p) : ∃ c, cs[i]? = some c ∧ p = .dat c := by
  rw [List.getElem?_map] at h
  obtain ⟨c, h1, h2⟩ := Option.map_eq_some_iff.1 h
  exact ⟨c, h1, h2.symm⟩

theorem ok_indexAddr {t : Nat} {x y : Operand} {r : Res} (hI : Inv base E s a.tmps w) (hd : dstOk a.tmps.size o.dst = true) (hop : o.op = .indexAddr t x y) (h : sem P mb o.dst s (.indexAddr t x y) = some r) (happ : applyR o.dst s r = some s') : Ok1 P base E s' a o w := by
  simp only [sem] at h
  have hx := hI.eval x
  have hy := hI.eval y
  split at h
  · rename_i e _ _ _ hi
    obtain ⟨ti, d, z, h1, h2, h3, h4⟩ := tinf_spec hi
    injection h4 with h4 _ _ _
    obtain rfl := ofDesc_slice h4.symm
    split at h
    · rename_i j hj
      obtain ⟨tj, dj, zj, j1, j2, j3, rfl⟩ := tinf_spec hj
      obtain ⟨p, hp, rfl⟩ := Option.map_eq_some_iff.1 h
      have hrun : ∀ (ad : Addr) (n c : Nat) (k : IntKind) (i : Int), a.eval x = .slice (some ad) n c → a.eval y = .int k i → 0 ≤ i → i < n → (execOp a.eval o).run P w = .ok (.value (.pointer (some (ad.add (i.toNat * tj.size))))) w := by
        intro ad n c k i hv hv2 h0 hlt
        simp [execOp, hop, hv, hv2, Instr.indexAt, asIntOf, run_underlying h2, h0, hlt, run_size j1]
      unfold semIdx at hp
      split at hp
      · rename_i k i hc2
        rw [hc2] at hy
        have hv2 := rel_int hy
        split at hp
        · rename_i xs hc
          split at hp
          · rename_i hcond
            obtain ⟨h0, hsz⟩ := hcond
            split at hp
            · rename_i q hq
              injection hp with hp; subst hp
              rw [hc] at hx
              generalize hv : a.eval x = v at hx
              have hlt := (List.getElem?_eq_some_iff.1 hq).1
              cases hx with
              | fsl xs A ad c vals hc' hm hA hΨ hf h1' hr =>
                obtain rfl := hA (by omega)
                simp only at hsz
                refine Ok1.val hI hd (hrun ad _ c k i hv hv2 h0 (by omega)) (.cptr [q] _ (fun _ => vals i.toNat) (fun i' hi' => ?_) (fun p hp => ?_) (fun _ _ => h1' _ hlt) (fun i' p hp => ?_)) happ
                · have : i' = 0 := by simp at hi'; exact hi'
                  subst this
                  rw [hsz, Nat.mul_one, addr_add_add, Nat.add_zero]; exact hΨ _ hlt
                · simp at hp; subst hp; exact hf _ (List.mem_of_getElem? hq)
                · cases i' with
                  | zero => simp at hp; subst hp; exact hr _ _ hq
                  | succ _ => simp at hp
            · cases hp
          · cases hp
        · rename_i t' n hc
          split at hp
          · rename_i hcond
            obtain ⟨h0, hlt, hsz⟩ := hcond
            injection hp with hp; subst hp
            rw [hc] at hx
            generalize hv : a.eval x = v at hx
            cases hx with
            | msl t n b c hb hc hm =>
              simp only at hsz
              refine Ok1.val hI hd (hrun _ _ c k i hv hv2 h0 hlt) ?_ happ
              rw [hsz, Nat.mul_one, addr_mk_add, Nat.zero_add]; exact .bptr _ _ _ hb
          · cases hp
        · split at hp
          · rename_i xs hl
            split at hp
            · rename_i h0
              split at hp
              · rename_i d' hd'
                split at hp
                · rename_i hsz
                  injection hp with hp; subst hp
                  have hr := listOf_rel hx hl
                  generalize hv : a.eval x = v at hr
                  have hlt := (List.getElem?_eq_some_iff.1 hd').1
                  cases hr with
                  | sl xs A ad c sz vals hc hm hA hsz' hf hΦ hr =>
                    obtain rfl := hA (by omega)
                    have hs2 : sz = tj.size := by rw [← hsz' d' (List.mem_of_getElem? hd')]; exact hsz
                    subst hs2
                    simp only at hsz
                    refine Ok1.val hI hd (hrun ad _ c k i hv hv2 h0 (by omega)) (.cptr _ _ (fun q => vals i.toNat q) (fun q hq => ?_) (fun p hp => ?_) (fun q hq => ?_) (fun q p hp => ?_)) happ
                    · rw [addr_add_add]; exact hI.sub _ _ (hΦ _ _ hlt (by simp at hq; omega))
                    · obtain ⟨c', hc', rfl⟩ := List.mem_map.1 hp
                      exact .inl (hf d' (List.mem_of_getElem? hd') c' hc')
                    · have hq' : q < d'.cells.length := by simpa using hq
                      exact (hr _ q d' _ hd' (List.getElem?_eq_getElem hq')).one (hf d' (List.mem_of_getElem? hd') _ (List.getElem_mem hq'))
                    · obtain ⟨c', hc', rfl⟩ := dat_map_get _ _ _ hp
                      exact .dat _ _ (hr _ q d' c' hd' hc')
                · cases hp
              · cases hp
            · cases hp
          · cases hp
      · cases hp
    · cases h
  · cases h

theorem ok_slice {t : Nat} {x : Operand} {lo hi : Option Operand} {r : Res} (hI : Inv base E s a.tmps w) (hd : dstOk a.tmps.size o.dst = true) (hop : o.op = .slice t x lo hi none) (h : sem P mb o.dst s (.slice t x lo hi none) = some r) (happ : applyR o.dst s r = some s') : Ok1 P base E s' a o w := by
  simp only [sem] at h
  have hx := hI.eval x
  split at h
  · rename_i e _ _ _ hti
    obtain ⟨ti, d, z, h1, h2, h3, h4⟩ := tinf_spec hti
    injection h4 with h4 _ _ _
    obtain rfl := ofDesc_slice h4.symm
    split at h
    · rename_i j hj
      obtain ⟨tj, dj, zj, j1, j2, j3, rfl⟩ := tinf_spec hj
      obtain ⟨p, hp, rfl⟩ := Option.map_eq_some_iff.1 h
      unfold semSlice at hp
      split at hp
      · rename_i xs hl
        have hr := listOf_rel hx hl
        simp only at hp
        split at hp
        · rename_i l hh hlo hhi
          split at hp
          · rename_i hcond
            obtain ⟨c1, c2, c3, c4⟩ := hcond
            injection hp with hp; subst hp
            generalize hv : a.eval x = v at hr
            cases hr with
            | sl xs A ad c sz vals hc hm hA hsz hf hΦ hr =>
              obtain ⟨l, rfl⟩ := Int.eq_ofNat_of_zero_le c1
              obtain ⟨hh, rfl⟩ := Int.eq_ofNat_of_zero_le (show 0 ≤ hh by omega)
              simp only [Int.toNat_natCast] at *
              have hbounds : (Instr.sliceBounds true xs.length c (lo.map a.eval) (hi.map a.eval) none).run P w = .ok (l, hh, c) w := by
                have hB : ∀ (p : PVal) (v : Value) (n : Int), RelP E p v → intOf? p = some n → ∃ k, v = .int k n := by
                  intro p v n hr hn
                  cases hr <;> simp [intOf?] at hn
                  rename_i d hd; cases d <;> simp [intOf?] at hn
                  subst hn; cases hd; exact ⟨_, rfl⟩
                have hlh : l ≤ hh := by omega
                have hhc : hh ≤ c := by omega
                cases hi with
                | none =>
                  have hhx : hh = xs.length := by simp at hhi; omega
                  subst hhx
                  cases lo with
                  | none =>
                    have : l = 0 := by simp at hlo; omega
                    subst this
                    simp [Instr.sliceBounds]
                  | some q =>
                    simp only [Option.map_some] at hlo
                    obtain ⟨k, hk⟩ := hB _ _ _ (hI.eval q) hlo
                    have : ¬ ((xs.length : Int) < (l : Int)) := by omega
                    simp [Instr.sliceBounds, Instr.sliceBound, asIntOf, hk, hlh]
                | some q' =>
                  simp only [Option.map_some] at hhi
                  obtain ⟨k', hk'⟩ := hB _ _ _ (hI.eval q') hhi
                  cases lo with
                  | none =>
                    have : l = 0 := by simp at hlo; omega
                    subst this
                    simp [Instr.sliceBounds, Instr.sliceBound, asIntOf, hk', hhc]
                  | some q =>
                    simp only [Option.map_some] at hlo
                    obtain ⟨k, hk⟩ := hB _ _ _ (hI.eval q) hlo
                    simp [Instr.sliceBounds, Instr.sliceBound, asIntOf, hk, hk', hlh, hhc]
              have hlen : ((xs.take hh).drop l).length = hh - l := by simp; omega
              have hrel : RelD E.Φ (.sl ((xs.take hh).drop l)) (.slice (if c = l then A else A.map (·.add (l * tj.size))) (hh - l) (c - l)) := by
                rw [← hlen]
                rcases Nat.eq_zero_or_pos l with hl0 | hl0
                · subst hl0
                  have e1 : (if c = 0 then A else A.map (·.add (0 * tj.size))) = A := by
                    split
                    · rfl
                    · cases A <;> simp [Addr.add]
                  rw [e1]
                  refine .sl _ A ad _ sz vals (by rw [hlen]; omega) (by rw [hlen]; omega) (fun hp => hA (by rw [hlen] at hp; omega)) (fun d hd => hsz d (List.mem_of_mem_take (List.mem_of_mem_drop hd))) (fun d hd => hf d (List.mem_of_mem_take (List.mem_of_mem_drop hd))) (fun j' i hj' hi' => hΦ j' i (by rw [hlen] at hj'; omega) hi') (fun j' i d c' hj' hc' => ?_)
                  rw [List.getElem?_drop] at hj'
                  have hlt := (List.getElem?_eq_some_iff.1 hj').1
                  rw [List.length_take] at hlt
                  rw [List.getElem?_take_of_lt (by omega), Nat.zero_add] at hj'
                  exact hr j' i d c' hj' hc'
                · have c4' : ∀ d ∈ xs, d.cells.length = tj.size := by
                    rcases c4 with c4 | c4
                    · omega
                    · intro d hd; simpa using List.all_eq_true.1 c4 d hd
                  refine .sl _ _ (ad.add (l * tj.size)) _ tj.size (fun j' i => vals (l + j') i) (by rw [hlen]; omega) (by rw [hlen]; omega) (fun hp => ?_) (fun d hd => c4' d (List.mem_of_mem_take (List.mem_of_mem_drop hd))) (fun d hd => hf d (List.mem_of_mem_take (List.mem_of_mem_drop hd))) (fun j' i hj' hi' => ?_) (fun j' i d c' hj' hc' => ?_)
                  · rw [hlen] at hp
                    rw [if_neg (by omega), hA (by omega)]; rfl
                  · rw [hlen] at hj'
                    have hsz2 : sz = tj.size := by rw [← hsz xs[0] (List.getElem_mem (by omega)), c4' _ (List.getElem_mem (by omega))]
                    rw [addr_add_add, ← Nat.add_assoc, ← Nat.add_mul, ← hsz2]
                    exact hΦ (l + j') i (by omega) (by omega)
                  · rw [List.getElem?_drop] at hj'
                    have hlt := (List.getElem?_eq_some_iff.1 hj').1
                    rw [List.length_take] at hlt
                    rw [List.getElem?_take_of_lt (by omega)] at hj'
                    exact hr _ i d c' hj' hc'
              refine Ok1.val hI hd ?_ (.dat _ _ hrel) happ
              simp [execOp, hop, hv, Instr.sliceAt, Instr.slice, run_underlying h2, hbounds, run_size j1]
          · cases hp
        · cases hp
      · cases hp
    · cases h
  · cases h

theorem beq_bytes (x y : ByteArray) : (x.toList == y.toList) = decide (x = y) := by
  have : (x.toList = y.toList) ↔ x = y := by
    rw [ByteArray.toList_eq, ByteArray.toList_eq]
    constructor
    · intro h
      cases x; cases y
      simp at h
      exact congrArg _ h
    · rintro rfl; rfl
  rw [Bool.eq_iff_iff]
  simp [this]
theorem beq_bytes' (x y : ByteArray) : (x == y) = decide (x = y) := by rw [beq_toListBytes, beq_bytes]

theorem rel_dat {d : Dat} {v : Value} (h : RelP E (.dat d) v) : RelD E.Φ d v := by cases h; assumption

theorem eqFields_run {P : Program} {Φ : Mem} {w : World} (dep : Nat) : ∀ (fs : List Field) (i : Nat) (ks : List SK) (xs ys : List Dat) (us vs : List Value) (b : Bool), sksOf P i fs = some ks → skAll ks xs = true → skAll ks ys = true → eqDs xs ys = some b →
    (∀ (j : Nat) (d : Dat), xs[j]? = some d → ∃ u, us[i + j]? = some u ∧ RelD Φ d u) → (∀ (j : Nat) (d : Dat), ys[j]? = some d → ∃ u, vs[i + j]? = some u ∧ RelD Φ d u) →
    (Op.eqFields (dep + 1) us.toArray vs.toArray fs).run P w = .ok b w
  | [], i, ks, xs, ys, us, vs, b, hk, hx, hy, he, _, _ => by
    simp [sksOf] at hk; subst hk
    cases xs <;> simp [skAll] at hx
    cases ys <;> simp [skAll] at hy
    simp [eqDs] at he; subst he
    simp [Op.eqFields]
  | f :: fs, i, ks, xs, ys, us, vs, b, hk, hx, hy, he, hu, hv => by
    simp only [sksOf] at hk
    split at hk
    · cases hk
    · rename_i hcond
      have hn : f.name ≠ "_" := fun h => hcond (.inl h)
      have ho : f.offset = i := by
        rcases Nat.decEq f.offset i with h | h
        · exact absurd (.inr h) hcond
        · exact h
      split at hk
      · rename_i k ks' h1 h2
        injection hk with hk; subst hk
        cases xs with
        | nil => simp [skAll] at hx
        | cons x xs =>
          cases ys with
          | nil => simp [skAll] at hy
          | cons y ys =>
            simp only [skAll, Bool.and_eq_true] at hx hy
            simp only [eqDs] at he
            split at he
            · rename_i b1 b2 e1 e2
              injection he with he; subst he
              obtain ⟨u, hu1, hu2⟩ := hu 0 x (by simp)
              obtain ⟨v, hv1, hv2⟩ := hv 0 y (by simp)
              have ih := eqFields_run (P := P) (w := w) dep fs (i + 1) ks' xs ys us vs b2 h2 hx.2 hy.2 e2 (fun j d hj => by
                have := hu (j + 1) d (by simpa using hj); rwa [show i + (j + 1) = i + 1 + j by omega] at this) (fun j d hj => by
                have := hv (j + 1) d (by simpa using hj); rwa [show i + (j + 1) = i + 1 + j by omega] at this)
              simp only [Nat.add_zero] at hu1 hv1
              -- the field by itself
              have hfld : (part f.type us.toArray f.offset).run P w = .ok u w ∧ (part f.type vs.toArray f.offset).run P w = .ok v w ∧ (Op.equalIn (dep + 1) f.type u v).run P w = .ok b1 w := by
                have hpl : ∀ (zs : List Value) (q : Value) (td : TypeDesc), P.underlying f.type = some td → (match td with | .struct _ | .array _ _ => true | _ => false) = false → zs[f.offset]? = some q → (part f.type zs.toArray f.offset).run P w = .ok q w := by
                  intro zs q td ht hp hq
                  have hag : (isAgg f.type).run P w = .ok false w := by
                    unfold isAgg; rw [Sem.run_bind, run_underlying ht w]; cases td <;> simp_all
                  simp [part, hag, hq]
                rw [ho] at *
                unfold skOf at h1
                split at h1 <;> (try cases h1) <;> rename_i ht
                · cases x <;> simp [SK.ok] at hx
                  cases y <;> simp [SK.ok] at hy
                  cases hu2; cases hv2
                  simp [eqD] at e1; subst e1
                  exact ⟨hpl _ _ _ ht rfl hu1, hpl _ _ _ ht rfl hv1, by simp [Op.equalIn, run_underlying ht]⟩
                · cases x <;> simp [SK.ok] at hx
                  cases y <;> simp [SK.ok] at hy
                  cases hu2; cases hv2
                  simp [eqD] at e1
                  obtain ⟨ek, e1⟩ := e1
                  subst ek e1
                  refine ⟨hpl _ _ _ ht rfl hu1, hpl _ _ _ ht rfl hv1, ?_⟩
                  simp only [Op.equalIn, Sem.run_bind, run_underlying ht, Result.andThen_ok, if_true, Sem.run_pure]
                  congr 1
                · cases x <;> simp [SK.ok] at hx
                  cases y <;> simp [SK.ok] at hy
                  cases hu2; cases hv2
                  simp [eqD] at e1; subst e1
                  exact ⟨hpl _ _ _ ht rfl hu1, hpl _ _ _ ht rfl hv1, by simp [Op.equalIn, run_underlying ht, beq_bytes']⟩
              simp only [Op.eqFields, if_pos hn, Sem.run_bind, hfld.1, hfld.2.1, hfld.2.2, Result.andThen_ok]
              cases b1
              · simp
              · simpa using ih
            · cases he
      · cases hk
end
end Go.Abs

/- More operations: comparisons and sums, structs and lists that are built, append. -/
set_option linter.unusedVariables false
set_option linter.unusedSimpArgs false
namespace Go.Abs
open Go Go.RowKit
section
variable {P : Program} {base : Nat} {E : Env} {s s' : ASt} {a : Act} {o : Oper} {w : World} {mb : List Nat}

theorem beq_int (m n : Int) : (m == n) = decide (m = n) := by rw [Bool.eq_iff_iff]; simp

theorem ok_binOp {op : BinOp} {t t' : Nat} {x y : Operand} {r : Res} (hI : Inv base E s a.tmps w) (hd : dstOk a.tmps.size o.dst = true) (hop : o.op = .binOp op t x y t') (h : sem P mb o.dst s (.binOp op t x y t') = some r) (happ : applyR o.dst s r = some s') : Ok1 P base E s' a o w := by
  simp only [sem] at h
  have hx := hI.eval x
  have hy := hI.eval y
  obtain ⟨p, hp, rfl⟩ := Option.map_eq_some_iff.1 h
  unfold semBin at hp
  split at hp
  · rename_i k m k' n hc hc'
    rw [hc] at hx; rw [hc'] at hy
    have hv := rel_int hx
    have hv2 := rel_int hy
    split at hp
    · rename_i hs; subst hs
      have hg : (eqGuard .shl t x y (.int k m) (.int k' n)).run P w = .ok () w := by simp [eqGuard]
      unfold shlA at hp
      split at hp
      · rename_i h0
        injection hp with hp; subst hp
        refine Ok1.val hI hd ?_ (.dat _ _ (.int _ _)) happ
        have h00 : ¬ n < 0 := by omega
        simp [execOp, hop, hv, hv2, hg, binOp, Op.shift, h00]
      · cases hp
    rename_i hns
    split at hp
    · rename_i hk; subst hk
      have hg : (eqGuard op t x y (.int k m) (.int k n)).run P w = .ok () w := by cases op <;> simp [eqGuard]
      unfold intBin at hp
      split at hp
      case h_4 | h_5 =>
        split at hp
        · cases hp
        · rename_i hne
          injection hp with hp; subst hp
          refine Ok1.val hI hd ?_ (.dat _ _ (.int _ _)) happ
          simp [execOp, hop, hv, hv2, hg, binOp, Op.intDiv, hne]
      all_goals first
        | (cases hp; done)
        | (injection hp with hp; subst hp
           refine Ok1.val hI hd ?_ (.dat _ _ (by first | exact .int _ _ | exact .bool _)) happ
           first
           | (simp [execOp, hop, hv, hv2, hg, binOp, Op.intArith]; done)
           | (simp [execOp, hop, hv, hv2, hg, binOp, Op.intBits]; done)
           | (simp [execOp, hop, hv, hv2, hg, binOp, Op.intCmp, beq_int, bne]; done))
    · cases hp
  · rename_i b1 b2 hc hc'
    rw [hc] at hx; rw [hc'] at hy
    have hv := rel_str hx
    have hv2 := rel_str hy
    have hg : (eqGuard op t x y (.string b1) (.string b2)).run P w = .ok () w := by cases op <;> simp [eqGuard]
    unfold strBin at hp
    split at hp
    all_goals first
      | (cases hp; done)
      | (injection hp with hp; subst hp
         refine Ok1.val hI hd ?_ (.dat _ _ (.bool _)) happ
         simp [execOp, hop, hv, hv2, hg, binOp, Op.stringOp, beq_bytes]
         done)
  · rename_i b1 b2 hc hc'
    rw [hc] at hx; rw [hc'] at hy
    have hv := rel_bool hx
    have hv2 := rel_bool hy
    have hg : (eqGuard op t x y (.bool b1) (.bool b2)).run P w = .ok () w := by cases op <;> simp [eqGuard]
    split at hp
    · rename_i _ _ _ hi
      obtain ⟨ti, d, z, h1, h2, h3, h4⟩ := tinf_spec hi
      injection h4 with h4 _ _ _
      obtain rfl := ofDesc_bool h4.symm
      injection hp with hp; subst hp
      refine Ok1.val hI hd ?_ (.dat _ _ (.bool _)) happ
      have he : (Op.equalIn Op.maxDepth t (.bool b1) (.bool b2)).run P w = .ok (b1 == b2) w := run_equalIn_bool' w 9999 t b1 b2 h2
      simp [execOp, hop, hv, hv2, hg, binOp, Op.equal, he]
    · rename_i _ _ _ hi
      obtain ⟨ti, d, z, h1, h2, h3, h4⟩ := tinf_spec hi
      injection h4 with h4 _ _ _
      obtain rfl := ofDesc_bool h4.symm
      injection hp with hp; subst hp
      refine Ok1.val hI hd ?_ (.dat _ _ (.bool _)) happ
      have he : (Op.equalIn Op.maxDepth t (.bool b1) (.bool b2)).run P w = .ok (b1 == b2) w := run_equalIn_bool' w 9999 t b1 b2 h2
      simp [execOp, hop, hv, hv2, hg, binOp, Op.equal, he]
    · cases hp
  · rename_i xs ys hc hc'
    rw [hc] at hx; rw [hc'] at hy
    have hx := rel_dat hx
    have hy := rel_dat hy
    split at hp
    · rename_i ks hks
      split at hp
      · rename_i hsk
        rw [Bool.and_eq_true] at hsk
        unfold eqOk at hks
        split at hks
        · rename_i fs hu
          split at hks
          · cases hks
          · rename_i hno
            rw [Bool.or_eq_true, not_or] at hno
            have hno1 : P.stoodInHeld t = false := by simpa using hno.1
            have hno2 : P.eqGuardType P.depth t = false := by simpa using hno.2
            generalize hv : a.eval x = vx at hx
            generalize hv2 : a.eval y = vy at hy
            cases hx with
            | agg _ us hl hfl hr =>
              cases hy with
              | agg _ vs hl' hfl' hr' =>
                have hfo : P.fieldsOf t = fs := by simp [Program.fieldsOf, hu]
                have hrun : ∀ b, eqDs xs ys = some b → (Op.equalIn 10000 t (.agg us.toArray) (.agg vs.toArray)).run P w = .ok b w := by
                  intro b hb
                  rw [show (10000 : Nat) = 9999 + 1 from rfl, run_equalIn_struct w 9999 t _ _ (by rw [hfo]; exact hu) hno1, hfo]
                  exact eqFields_run (Φ := E.Φ) 9998 fs.toList 0 ks xs ys us vs b hks hsk.1 hsk.2 hb (fun j d hj => by
                    have hj1 := (List.getElem?_eq_some_iff.1 hj).1
                    exact ⟨us[j]'(by omega), by rw [Nat.zero_add]; exact List.getElem?_eq_getElem (by omega), hr j d _ hj (List.getElem?_eq_getElem (by omega))⟩) (fun j d hj => by
                    have hj1 := (List.getElem?_eq_some_iff.1 hj).1
                    exact ⟨vs[j]'(by omega), by rw [Nat.zero_add]; exact List.getElem?_eq_getElem (by omega), hr' j d _ hj (List.getElem?_eq_getElem (by omega))⟩)
                have hg : (eqGuard op t x y (.agg us.toArray) (.agg vs.toArray)).run P w = .ok () w := run_eqGuard_agg w op t x y _ _ hno2
                split at hp
                · rename_i b hb
                  injection hp with hp; subst hp
                  refine Ok1.val hI hd ?_ (.dat _ _ (.bool _)) happ
                  simp [execOp, hop, hv, hv2, hg, run_eql_struct, hrun b hb]
                · rename_i b hb
                  injection hp with hp; subst hp
                  refine Ok1.val hI hd ?_ (.dat _ _ (.bool _)) happ
                  simp [execOp, hop, hv, hv2, hg, run_neq_struct, hrun b hb]
                · cases hp
        · cases hks
      · cases hp
    · cases hp
  · cases hp

theorem mkAgg_of {cs : List PVal} {vs : Array Value} (hl : vs.size = cs.length) (hf : ∀ p ∈ cs, p.flat = true ∨ p = .top)
    (hr : ∀ (i : Nat) (p : PVal) (v : Value), cs[i]? = some p → vs[i]? = some v → RelP E p v ∧ v.oneCell' = true) : RelP E (mkAgg cs) (.agg vs) := by
  have := mkAgg_rel (E := E) (cs := cs) (vs := vs.toList) (by simpa using hl) (fun v hv => by
    obtain ⟨k, hk, rfl⟩ := List.getElem_of_mem hv
    have hk2 : k < vs.size := by simpa using hk
    exact (hr k (cs[k]'(by omega)) _ (List.getElem?_eq_getElem (by omega)) (by simp)).2) hf (fun i p v hp hv => (hr i p v hp (by simpa using hv)).1)
  simpa using this

/-- The parts of a struct are filled in as the model fills them. -/
theorem fill_rel (places : List (Nat × Nat)) : ∀ (parts : List (Nat × Operand)) (cells cs' : List PVal) (vs : Array Value), Inv base E s a.tmps w → fillA places cells (parts.map fun (i, x) => (i, s.eval x)) = some cs' → vs.size = cells.length →
    (∀ p ∈ cells, p.flat = true ∨ p = .top) → (∀ (i : Nat) (p : PVal) (v : Value), cells[i]? = some p → vs[i]? = some v → RelP E p v ∧ v.oneCell' = true) →
    ∃ vs', Instr.fill (places[·]?) vs (parts.map fun (i, x) => (i, a.eval x)) = some vs' ∧ vs'.size = cs'.length ∧ (∀ p ∈ cs', p.flat = true ∨ p = .top) ∧ ∀ (i : Nat) (p : PVal) (v : Value), cs'[i]? = some p → vs'[i]? = some v → RelP E p v ∧ v.oneCell' = true
  | [], cells, cs', vs, hI, h, hl, hf, hr => by
    simp [fillA] at h; subst h
    exact ⟨vs, rfl, hl, hf, hr⟩
  | (k, x) :: parts, cells, cs', vs, hI, h, hl, hf, hr => by
    simp only [List.map_cons, fillA] at h
    split at h
    · rename_i off size hpl
      split at h
      · rename_i hcond
        obtain ⟨c1, c2, c3⟩ := hcond
        obtain ⟨g1, g2⟩ := cells_rel (hI.eval x) c3
        have hsz : (a.eval x).cells.size = size := by omega
        -- what the fold leaves
        have hfold : ∀ (l : List Value) (n : Nat) (arr : Array Value), off + n + l.length ≤ arr.size → (l.zipIdx n).foldl (fun cs (c, j) => cs.setIfInBounds (off + j) c) arr = (arr.toList.take (off + n) ++ l ++ arr.toList.drop (off + n + l.length)).toArray := by
          intro l
          induction l with
          | nil => intro n arr _; simp
          | cons v l ih =>
            intro n arr hle
            simp only [List.length_cons] at hle
            simp only [List.zipIdx_cons, List.foldl_cons]
            rw [ih (n + 1) (arr.setIfInBounds (off + n) v) (by simp; omega)]
            congr 1
            apply List.ext_getElem?
            intro i
            simp only [Array.toList_setIfInBounds, List.append_assoc]
            have e1 : (List.take (off + (n + 1)) (arr.toList.set (off + n) v)).length = off + n + 1 := by simp; omega
            have e2 : (List.take (off + n) arr.toList).length = off + n := by simp; omega
            rcases Nat.lt_or_ge i (off + n) with hi | hi
            · rw [List.getElem?_append_left (by omega), List.getElem?_append_left (by omega), List.getElem?_take_of_lt (by omega), List.getElem?_take_of_lt hi, List.getElem?_set_ne (by omega)]
            · rcases Nat.eq_or_lt_of_le hi with hi2 | hi2
              · subst hi2
                rw [List.getElem?_append_left (by omega), List.getElem?_take_of_lt (by omega), List.getElem?_set_self (by simp; omega), List.getElem?_append_right (by omega), e2]
                simp
              · rw [List.getElem?_append_right (by omega), List.getElem?_append_right (l₁ := List.take (off + n) arr.toList) (by omega), e1, e2]
                obtain ⟨q, rfl⟩ : ∃ q, i = off + n + 1 + q := ⟨i - (off + n + 1), by omega⟩
                rw [show off + n + 1 + q - (off + n + 1) = q by omega, show off + n + 1 + q - (off + n) = q + 1 by omega]
                simp only [List.cons_append, List.getElem?_cons_succ]
                rw [List.getElem?_append, List.getElem?_append]
                split
                · rfl
                · rw [List.getElem?_drop, List.getElem?_drop, List.getElem?_set_ne (by omega)]
                  congr 1
                  simp only [List.length_cons]
                  omega
        have hfo := hfold (a.eval x).cells.toList 0 vs (by simp; omega)
        simp only [Nat.add_zero] at hfo
        obtain ⟨vs', h1, h2⟩ := fill_rel places parts _ cs' (vs.toList.take off ++ (a.eval x).cells.toList ++ vs.toList.drop (off + (a.eval x).cells.toList.length)).toArray hI h (by simp; omega) (fun p hp => by
            rcases List.mem_append.1 hp with hp | hp
            · rcases List.mem_append.1 hp with hp | hp
              · exact hf p (List.mem_of_mem_take hp)
              · exact .inl (List.all_eq_true.1 c3 p hp)
            · exact hf p (List.mem_of_mem_drop hp)) (fun i p u hp hu => by
            have hl0 : (List.take off cells).length = off := by rw [List.length_take]; omega
            have hl0' : (List.take off vs.toList).length = off := by rw [List.length_take, Array.length_toList]; omega
            simp only [List.getElem?_toArray] at hu
            rcases Nat.lt_or_ge i off with hk | hk
            · rw [List.append_assoc, List.getElem?_append_left (by omega), List.getElem?_take_of_lt hk] at hp hu
              exact hr i p u hp (by simpa using hu)
            · rcases Nat.lt_or_ge i (off + size) with hk2 | hk2
              · rw [List.append_assoc, List.getElem?_append_right (by omega), List.getElem?_append_left (by omega)] at hp
                rw [List.append_assoc, List.getElem?_append_right (by omega), List.getElem?_append_left (by simp; omega)] at hu
                rw [hl0] at hp; rw [hl0'] at hu
                exact g2 _ p u hp (by simpa using hu)
              · rw [List.append_assoc, List.getElem?_append_right (by omega), List.getElem?_append_right (by omega), List.getElem?_drop] at hp
                rw [List.append_assoc, List.getElem?_append_right (by omega), List.getElem?_append_right (by simp; omega), List.getElem?_drop] at hu
                rw [hl0] at hp; rw [hl0'] at hu
                have e1 : off + size + (i - off - (s.eval x).cells.length) = i := by omega
                have e2 : off + (a.eval x).cells.toList.length + (i - off - (a.eval x).cells.toList.length) = i := by simp; omega
                rw [e1] at hp; rw [e2] at hu
                exact hr i p u hp (by simpa using hu))
        refine ⟨vs', ?_, h2⟩
        simp only [List.map_cons, Instr.fill]
        rw [hpl]
        simp only
        rw [if_neg (by simp [hsz]; omega)]
        rw [← Array.foldl_toList, Array.toList_zipIdx]
        exact (congrArg (fun z => Instr.fill (places[·]?) z (parts.map fun (i, x) => (i, a.eval x))) hfo).trans h1
      · cases h
    · cases h
end
end Go.Abs

/- More operations: structs and lists that are built, append; all of them at once. -/
set_option linter.unusedVariables false
set_option linter.unusedSimpArgs false
namespace Go.Abs
open Go Go.RowKit
section
variable {P : Program} {base : Nat} {E : Env} {s s' : ASt} {a : Act} {o : Oper} {w : World} {mb : List Nat}

theorem sizesOf_spec {P : Program} : ∀ {gs : List Field} {pl : List (Nat × Nat)}, sizesOf P (gs.map fun f => (f.type, f.offset)) = some pl →
    ∀ w, (gs.mapM (fun f => do pure (f.offset, ← sizeOf f.type)) : Sem (List (Nat × Nat))).run P w = .ok pl w
  | [], pl, h, w => by simp [sizesOf] at h; subst h; simp
  | g :: gs, pl, h, w => by
    simp only [List.map_cons, sizesOf] at h
    split at h
    · rename_i i r h1 h2
      injection h with h; subst h
      have ih := sizesOf_spec h2 w
      simp only [List.mapM_cons, Sem.run_bind, run_size h1, ih, Result.andThen_ok, Sem.run_pure]
    · cases h

theorem ok_build {t : Nat} {parts : Array (Nat × Operand)} {r : Res} (hI : Inv base E s a.tmps w) (hd : dstOk a.tmps.size o.dst = true) (hop : o.op = .build t parts) (h : sem P mb o.dst s (.build t parts) = some r) (happ : applyR o.dst s r = some s') : Ok1 P base E s' a o w := by
  simp only [sem] at h
  split at h
  · rename_i fs _ _ z0 hi
    obtain ⟨ti, d, z, h1, h2, h3, h4⟩ := tinf_spec hi
    injection h4 with h4 _ _ h5
    subst h5
    obtain ⟨gs, rfl, rfl, hn⟩ := ofDesc_struct h4.symm
    split at h
    · rename_i pl hpl
      split at h
      · rename_i hz
        obtain ⟨cs', hf, rfl⟩ := Option.map_eq_some_iff.1 h
        obtain ⟨vs', f1, f2, f3, f4⟩ := fill_rel pl parts.toList _ cs' z.cells hI hf (by simp) (fun p hp => .inl (List.all_eq_true.1 hz p hp)) (zero_cells hz E)
        have hsz := sizesOf_spec hpl w
        have hm : ((parts.map fun (i, x) => (i, a.eval x)).toList) = parts.toList.map fun (i, x) => (i, a.eval x) := by simp
        have hpm : (gs.mapM (fun f => do pure (f.offset, ← sizeOf f.type)) : Sem (Array (Nat × Nat))).run P w = .ok pl.toArray w := by
          rw [Array.mapM_eq_mapM_toList]
          simp only [Sem.run_map, hsz, Result.andThen_ok]
        refine Ok1.val (v := .agg vs') hI hd ?_ (mkAgg_of f2 f3 f4) happ
        have hfill : Instr.fill (pl.toArray[·]?) z.cells ((parts.map fun (i, x) => (i, a.eval x)).toList) = some vs' := by
          rw [hm]
          have e : (fun i : Nat => pl.toArray[i]?) = (fun i : Nat => pl[i]?) := by funext i; simp
          rw [e]; exact f1
        simp only [execOp, hop]
        refine run_v ?_
        simp only [Instr.build, Sem.run_bind, run_zero h1 h3, Result.andThen_ok, run_underlying h2, hpm]
        simp only [hfill, Sem.run_pure]
      · cases h
    · cases h
  · cases h

theorem inOrder_spec : ∀ {l : List (Nat × PVal)} {ps : List PVal} {i : Nat}, inOrder i l = some ps → l.length = ps.length ∧ ∀ (j : Nat) (p : PVal), ps[j]? = some p → l[j]? = some (i + j, p)
  | [], ps, i, h => by simp [inOrder] at h; subst h; simp
  | (k, q) :: l, ps, i, h => by
    simp only [inOrder] at h
    split at h
    · rename_i hk; subst hk
      obtain ⟨ps', h', rfl⟩ := Option.map_eq_some_iff.1 h
      obtain ⟨g1, g2⟩ := inOrder_spec h'
      refine ⟨by simp [g1], fun j p hp => ?_⟩
      cases j with
      | zero => simp at hp; subst hp; simp
      | succ j => simp at hp; simpa [Nat.add_assoc, Nat.add_comm 1 j] using g2 j p hp
    · cases h

theorem datsOf_get : ∀ {cs : List PVal} {ds : List Dat}, datsOf cs = some ds → ds.length = cs.length ∧ ∀ (i : Nat) (p : PVal), cs[i]? = some p → ∃ d, ds[i]? = some d ∧ datOf p = some d
  | [], ds, h => by simp [datsOf] at h; subst h; simp
  | p :: ps, ds, h => by
    simp only [datsOf] at h
    split at h
    · rename_i d es hd he
      injection h with h; subst h
      obtain ⟨h1, h3⟩ := datsOf_get he
      refine ⟨by simp [h1], fun i q hq => ?_⟩
      cases i with
      | zero => simp at hq; subst hq; exact ⟨d, by simp, hd⟩
      | succ i => simp at hq; simpa using h3 i q hq
    · cases h

/-- Parts that follow each other fill a row. -/
theorem fill_row (sz : Nat) (hs : 0 < sz) : ∀ (vals : List Value) (k : Nat) (arr : Array Value), (∀ v ∈ vals, v.cells.size = sz) → (k + vals.length) * sz = arr.size →
    Instr.fill (fun i => some (i * sz, sz)) arr (vals.zipIdx k |>.map fun (v, i) => (i, v)) = some (arr.toList.take (k * sz) ++ vals.flatMap (fun v => v.cells.toList)).toArray
  | [], k, arr, _, hl => by
    simp only [List.zipIdx_nil, List.map_nil, Instr.fill, List.flatMap_nil, List.append_nil]
    congr 1
    apply Array.ext'
    simp only [List.toList_toArray]
    rw [List.take_of_length_le (by simp at hl ⊢; omega)]
  | v :: vals, k, arr, hv, hl => by
    have hsz := hv v (by simp)
    simp only [List.length_cons] at hl
    have hfit : k * sz + sz ≤ arr.size := by rw [← hl]; have : (k + 1) * sz ≤ (k + (vals.length + 1)) * sz := Nat.mul_le_mul_right _ (by omega); rw [Nat.add_mul] at this; omega
    simp only [List.zipIdx_cons, List.map_cons, Instr.fill]
    rw [if_neg (by simp [hsz]; omega), ← Array.foldl_toList, Array.toList_zipIdx]
    have hfold : ∀ (l : List Value) (n : Nat) (arr : Array Value), k * sz + n + l.length ≤ arr.size → (l.zipIdx n).foldl (fun cs (c, j) => cs.setIfInBounds (k * sz + j) c) arr = (arr.toList.take (k * sz + n) ++ l ++ arr.toList.drop (k * sz + n + l.length)).toArray := by
      intro l
      induction l with
      | nil => intro n arr _; simp
      | cons v l ih =>
        intro n arr hle
        simp only [List.length_cons] at hle
        simp only [List.zipIdx_cons, List.foldl_cons]
        rw [ih (n + 1) (arr.setIfInBounds (k * sz + n) v) (by simp; omega)]
        congr 1
        apply List.ext_getElem?
        intro i
        simp only [Array.toList_setIfInBounds, List.append_assoc]
        have e1 : (List.take (k * sz + (n + 1)) (arr.toList.set (k * sz + n) v)).length = k * sz + n + 1 := by simp; omega
        have e2 : (List.take (k * sz + n) arr.toList).length = k * sz + n := by simp; omega
        rcases Nat.lt_or_ge i (k * sz + n) with hi | hi
        · rw [List.getElem?_append_left (by omega), List.getElem?_append_left (by omega), List.getElem?_take_of_lt (by omega), List.getElem?_take_of_lt hi, List.getElem?_set_ne (by omega)]
        · rcases Nat.eq_or_lt_of_le hi with hi2 | hi2
          · subst hi2
            rw [List.getElem?_append_left (by omega), List.getElem?_take_of_lt (by omega), List.getElem?_set_self (by simp; omega), List.getElem?_append_right (by omega), e2]
            simp
          · rw [List.getElem?_append_right (by omega), List.getElem?_append_right (l₁ := List.take (k * sz + n) arr.toList) (by omega), e1, e2]
            obtain ⟨q, rfl⟩ : ∃ q, i = k * sz + n + 1 + q := ⟨i - (k * sz + n + 1), by omega⟩
            rw [show k * sz + n + 1 + q - (k * sz + n + 1) = q by omega, show k * sz + n + 1 + q - (k * sz + n) = q + 1 by omega]
            simp only [List.cons_append, List.getElem?_cons_succ]
            rw [List.getElem?_append, List.getElem?_append]
            split
            · rfl
            · rw [List.getElem?_drop, List.getElem?_drop, List.getElem?_set_ne (by omega)]
              congr 1
              simp only [List.length_cons]
              omega
    have hfo := hfold v.cells.toList 0 arr (by simp; omega)
    simp only [Nat.add_zero, Array.length_toList, hsz] at hfo
    refine (congrArg (fun z => Instr.fill (fun i => some (i * sz, sz)) z (vals.zipIdx (k + 1) |>.map fun (v, i) => (i, v))) hfo).trans ?_
    rw [fill_row sz hs vals (k + 1) _ (fun v hv' => hv v (by simp [hv'])) (by
      simp only [List.size_toArray, List.length_append, List.length_take, List.length_drop, Array.length_toList, hsz]
      rw [Nat.add_assoc, Nat.add_comm 1 vals.length, hl]; omega)]
    congr 2
    have e3 : (k + 1) * sz = k * sz + sz := by rw [Nat.add_mul]; omega
    have hT : (arr.toList.take (k * sz)).length = k * sz := by rw [List.length_take, Array.length_toList]; omega
    have hTV : (arr.toList.take (k * sz) ++ v.cells.toList).length = (k + 1) * sz := by rw [List.length_append, hT, Array.length_toList, hsz, e3]
    rw [List.take_append_of_le_length (by omega), List.take_of_length_le (by omega), List.flatMap_cons, List.append_assoc]

end
end Go.Abs

/- Lists that are built, append; all operations at once. -/
set_option linter.unusedVariables false
set_option linter.unusedSimpArgs false
namespace Go.Abs
open Go Go.RowKit
section
variable {P : Program} {base : Nat} {E : Env} {s s' : ASt} {a : Act} {o : Oper} {w : World} {mb : List Nat}

theorem flatMap_at {α β : Type} (f : α → List β) (sz : Nat) : ∀ (l : List α), (∀ x ∈ l, (f x).length = sz) → ∀ (j i : Nat) (x : α), l[j]? = some x → i < sz → (l.flatMap f)[j * sz + i]? = (f x)[i]?
  | [], _, j, i, x, h, _ => by simp at h
  | y :: l, hs, 0, i, x, h, hi => by
    simp at h; subst h
    have := hs y (by simp)
    rw [List.flatMap_cons, Nat.zero_mul, Nat.zero_add, List.getElem?_append_left (by omega)]
  | y :: l, hs, j + 1, i, x, h, hi => by
    have hy := hs y (by simp)
    have ih := flatMap_at f sz l (fun x hx => hs x (by simp [hx])) j i x (by simpa using h) hi
    rw [List.flatMap_cons, List.getElem?_append_right (by rw [hy, Nat.add_mul]; omega), hy, ← ih]
    congr 1
    rw [Nat.add_mul]; omega
theorem flatMap_len {α β : Type} (f : α → List β) (sz : Nat) : ∀ (l : List α), (∀ x ∈ l, (f x).length = sz) → (l.flatMap f).length = l.length * sz
  | [], _ => by simp
  | y :: l, hs => by
    rw [List.flatMap_cons, List.length_append, hs y (by simp), flatMap_len f sz l (fun x hx => hs x (by simp [hx])), List.length_cons, Nat.add_mul]; omega

theorem cellsD {d : Dat} {v : Value} (h : RelD E.Φ d v) (hf : ∀ c ∈ d.cells, c.flat = true) : v.cells.size = d.cells.length ∧ ∀ (i : Nat) (c : Dat) (u : Value), d.cells[i]? = some c → v.cells[i]? = some u → RelD E.Φ c u := by
  have hall : (PVal.dat d).cells.all PVal.flat = true := by
    rw [List.all_eq_true]; intro p hp
    obtain ⟨c, hc, rfl⟩ := List.mem_map.1 (show p ∈ d.cells.map PVal.dat from hp)
    exact hf c hc
  obtain ⟨g1, g2⟩ := cells_rel (RelP.dat d v h) hall
  refine ⟨by simpa [PVal.cells] using g1, fun i c u hc hu => ?_⟩
  have := (g2 i (.dat c) u (by simp [PVal.cells, hc]) hu).1
  exact rel_dat this

theorem datOf_cells {p : PVal} {d : Dat} (h : datOf p = some d) (hf : p.cells.all PVal.flat = true) : d.cells.length = p.cells.length ∧ ∀ c ∈ d.cells, c.flat = true := by
  cases p <;> simp [datOf] at h <;> subst h
  · refine ⟨by simp [PVal.cells], fun c hc => ?_⟩
    have := List.all_eq_true.1 hf (.dat c) (List.mem_map.2 ⟨c, hc, rfl⟩)
    exact this
  · exact ⟨rfl, by simp [Dat.cells, Dat.flat]⟩
  · exact ⟨rfl, by simp [Dat.cells, Dat.flat]⟩

theorem ok_buildSlice {t len : Nat} {parts : Array (Nat × Operand)} {r : Res} (hI : Inv base E s a.tmps w) (hd : dstOk a.tmps.size o.dst = true) (hop : o.op = .buildSlice t len parts) (h : sem P mb o.dst s (.buildSlice t len parts) = some r) (happ : applyR o.dst s r = some s') : Ok1 P base E s' a o w := by
  simp only [sem] at h
  split at h
  · rename_i e _ _ _ hti
    obtain ⟨ti, d, z, h1, h2, h3, h4⟩ := tinf_spec hti
    injection h4 with h4 _ _ _
    obtain rfl := ofDesc_slice h4.symm
    split at h
    · rename_i i hi
      obtain ⟨tj, dj, zj, j1, j2, j3, rfl⟩ := tinf_spec hi
      split at h
      · rename_i ps hps
        split at h
        · rename_i hcond
          obtain ⟨c1, c2, c3, c4, c5, c6⟩ := hcond
          simp only at c3 c4 c5
          obtain ⟨o1, o2⟩ := inOrder_spec hps
          have hlen : parts.toList.length = len := by rw [← c1, ← o1]; simp
          -- the operands, in order
          have hx : ∀ j (hj : j < len), ∃ x, parts.toList[j]? = some (j, x) ∧ ps[j]? = some (s.eval x) := by
            intro j hj
            have h5 := o2 j (ps[j]'(by omega)) (List.getElem?_eq_getElem (by omega))
            rw [List.getElem?_map] at h5
            obtain ⟨q, hq, hq2⟩ := Option.map_eq_some_iff.1 h5
            simp only [Nat.zero_add, Prod.mk.injEq] at hq2
            obtain ⟨q1, q2⟩ := q
            simp only at hq2
            obtain ⟨rfl, hq2⟩ := hq2
            exact ⟨q2, hq, by rw [hq2]; exact List.getElem?_eq_getElem (by omega)⟩
          let vals := parts.toList.map fun q => a.eval q.2
          have hvl : vals.length = len := by simp [vals, hlen]
          have hval : ∀ j x, parts.toList[j]? = some (j, x) → vals[j]? = some (a.eval x) := fun j x hj => by simp only [vals]; rw [List.getElem?_map, hj]; rfl
          have hps6 : ∀ p ∈ ps, p.cells.length = tj.size ∧ p.cells.all PVal.flat = true := fun p hp => by
            have := List.all_eq_true.1 c6 p hp
            simpa using this
          have hpv : ∀ j, j < len → ∃ p v, ps[j]? = some p ∧ vals[j]? = some v ∧ RelP E p v ∧ p.cells.length = tj.size ∧ p.cells.all PVal.flat = true := by
            intro j hj
            obtain ⟨x, x1, x2⟩ := hx j hj
            exact ⟨_, _, x2, hval j x x1, hI.eval x, hps6 _ (List.mem_of_getElem? x2)⟩
          have hvs : ∀ v ∈ vals, v.cells.size = tj.size := by
            intro v hv
            obtain ⟨j, hj, rfl⟩ := List.getElem_of_mem hv
            obtain ⟨p, v', p1, p2, p3, p4, p5⟩ := hpv j (by omega)
            rw [List.getElem?_eq_getElem hj] at p2; injection p2 with p2
            rw [p2, (cells_rel p3 p5).1, p4]
          have hparts : (parts.map fun (i, x) => (i, a.eval x)).toList = vals.zipIdx.map fun (v, i) => (i, v) := by
            apply List.ext_getElem?
            intro j
            simp only [Array.toList_map, List.getElem?_map, List.getElem?_zipIdx, vals]
            rcases Nat.lt_or_ge j len with hj | hj
            · obtain ⟨x, x1, x2⟩ := hx j hj
              rw [x1]; simp
            · rw [List.getElem?_eq_none (by omega)]; rfl
          have hzsz : zj.cells.size = tj.size := by simpa using c4
          have hfill := fill_row tj.size c5 vals 0 ((Array.range (len * tj.size)).map (zj.cells[· % zj.cells.size]!)) hvs (by simp [hvl])
          simp only [Nat.zero_mul, List.take_zero, List.nil_append] at hfill
          have hlsz : len * tj.size ≠ 0 := Nat.mul_ne_zero (by omega) (by omega)
          have hrun : (execOp a.eval o).run P w = .ok (.value (.slice (some ⟨w.heap.size, 0, none⟩) len len)) (w.alloc (.cells (vals.flatMap fun v => v.cells.toList).toArray e)) := by
            simp only [execOp, hop]
            refine run_v ?_
            simp only [Instr.buildSlice, Sem.run_bind, run_underlying h2, Result.andThen_ok, run_size j1]
            rw [if_neg (by omega)]
            simp only [Sem.run_bind, hlsz, if_false, run_zero j1 j3, Result.andThen_ok, Sem.run_pure, hparts]
            simp only [hfill, newRow, Sem.run_bind, run_newObj, Result.andThen_ok, Sem.run_pure, World.alloc_eq]
          obtain ⟨k1, k2, k3, k4⟩ := hI.alloc (vals.flatMap fun v => v.cells.toList).toArray e
          have hcell : ∀ (q : Nat) (u : Value), (vals.flatMap fun v => v.cells.toList)[q]? = some u → memExt E.Φ w.heap.size (vals.flatMap fun v => v.cells.toList).toArray ((⟨w.heap.size, 0, none⟩ : Addr).add q) = some u := by
            intro q u hq
            rw [addr_mk_add]; simp [memExt, hq]
          have hcell' : ∀ (q : Nat) (u : Value), (vals.flatMap fun v => v.cells.toList)[q]? = some u → memExt E.Ψ w.heap.size (vals.flatMap fun v => v.cells.toList).toArray ((⟨w.heap.size, 0, none⟩ : Addr).add q) = some u := by
            intro q u hq
            rw [addr_mk_add]; simp [memExt, hq]
          have hmax : len ≤ maxLen := by
            have : len * 1 ≤ len * tj.size := Nat.mul_le_mul_left _ c5
            simp [maxLen]; omega
          split at h
          · rename_i ds hds
            injection h with h; subst h
            simp only [applyR] at happ
            injection happ with happ; subst happ
            obtain ⟨d1, d2⟩ := datsOf_get hds
            have hdl : ds.length = len := by omega
            refine ⟨_, _, _, .inl hrun, k1.put o.dst (.dat _ _ ?_) hd, k4, k3, Fr.alloc _ (fun k h => .inl h)⟩
            have hdc : ∀ d ∈ ds, d.cells.length = tj.size ∧ ∀ c ∈ d.cells, c.flat = true := by
              intro d hd
              obtain ⟨j, hj, rfl⟩ := List.getElem_of_mem hd
              obtain ⟨p, v', p1, p2, p3, p4, p5⟩ := hpv j (by omega)
              obtain ⟨d', e1, e2⟩ := d2 j p p1
              rw [List.getElem?_eq_getElem hj] at e1; injection e1 with e1
              rw [e1]
              obtain ⟨f1, f2⟩ := datOf_cells e2 p5
              exact ⟨by omega, f2⟩
            have hFR : FlatRel (memExt E.Φ w.heap.size (vals.flatMap fun v => v.cells.toList).toArray) tj.size ds (vals.flatMap fun v => v.cells.toList) := by
              refine ⟨by rw [flatMap_len _ tj.size _ (fun v hv => by simpa using hvs v hv), hvl, hdl], fun j d i c hj hc => ?_⟩
              have hj1 := (List.getElem?_eq_some_iff.1 hj).1
              obtain ⟨p, v', p1, p2, p3, p4, p5⟩ := hpv j (by omega)
              obtain ⟨d', e1, e2⟩ := d2 j p p1
              rw [hj] at e1; injection e1 with e1; subst e1
              have hrd := datOf_rel p3 e2
              obtain ⟨f1, f2⟩ := hdc d (List.mem_of_getElem? hj)
              obtain ⟨g1, g2⟩ := cellsD hrd f2
              have hi1 := (List.getElem?_eq_some_iff.1 hc).1
              refine ⟨v'.cells[i]'(by omega), ?_, ((g2 i c _ hc (Array.getElem?_eq_getElem (by omega))).mono k2.phi)⟩
              rw [flatMap_at _ tj.size vals (fun v hv => by simpa using hvs v hv) j i v' p2 (by omega)]
              simp [show i < v'.cells.size by omega]
            have := flat_relD hFR (fun d hd => (hdc d hd).1) (fun d hd => (hdc d hd).2) (some ⟨w.heap.size, 0, none⟩) ⟨w.heap.size, 0, none⟩ len (fun _ => rfl) (by omega) (by omega) hcell
            rw [hdl] at this
            exact this
          · split at h
            · rename_i hone
              obtain ⟨hone, hfls⟩ := hone
              simp only at hone
              injection h with h; subst h
              simp only [applyR] at happ
              injection happ with happ; subst happ
              refine ⟨_, _, _, .inl hrun, k1.put o.dst ?_ hd, k4, k3, Fr.alloc _ (fun k h => .inl h)⟩
              have hp1 : ∀ j, j < ps.length → ∃ p v, ps[j]? = some p ∧ RelP E p v ∧ v.oneCell' = true ∧ p.flat = true ∧ (vals.flatMap fun v => v.cells.toList)[j]? = some v := by
                intro j hj
                obtain ⟨p, v', p1, p2, p3, p4, p5⟩ := hpv j (by omega)
                have hfl : p.flat = true := List.all_eq_true.1 hfls p (List.mem_of_getElem? p1)
                have h1' := p3.one hfl
                have hc : v'.cells = #[v'] := by cases v' <;> first | rfl | (simp [Value.oneCell'] at h1')
                refine ⟨p, v', p1, p3, h1', hfl, ?_⟩
                have := flatMap_at (fun v : Value => v.cells.toList) tj.size vals (fun v hv => by simpa using hvs v hv) j 0 v' p2 (by omega)
                rw [hone, Nat.mul_one, Nat.add_zero] at this
                rw [this, hc]; rfl
              have := RelP.fsl (E := E.ext w.heap.size (vals.flatMap fun v => v.cells.toList).toArray) ps (some ⟨w.heap.size, 0, none⟩) ⟨w.heap.size, 0, none⟩ len (fun j => (vals.flatMap fun v => v.cells.toList).getD j Go.undef) (by omega) (by omega) (fun _ => rfl) (fun j hj => by
                  obtain ⟨p, v, q1, q2, q3, q4, q5⟩ := hp1 j hj
                  rw [List.getD_eq_getElem?_getD, q5]; exact hcell' _ _ q5) (fun p hp => by
                  obtain ⟨j, hj, rfl⟩ := List.getElem_of_mem hp
                  obtain ⟨p, v, q1, q2, q3, q4, q5⟩ := hp1 j hj
                  rw [List.getElem?_eq_getElem hj] at q1; injection q1 with q1; rw [q1]; exact .inl q4) (fun j hj => by
                  obtain ⟨p, v, q1, q2, q3, q4, q5⟩ := hp1 j hj
                  rw [List.getD_eq_getElem?_getD, q5]; exact q3) (fun j p hp => by
                  obtain ⟨p', v, q1, q2, q3, q4, q5⟩ := hp1 j (List.getElem?_eq_some_iff.1 hp).1
                  rw [hp] at q1; injection q1 with q1; subst q1
                  rw [List.getD_eq_getElem?_getD, q5]; exact q2.mono k2)
              rw [c1] at this
              exact this
            · cases h
        · cases h
      · cases h
    · cases h
  · cases h

theorem ok_append {args : Array Operand} {ts : Array TypeId} {r : Res} (hI : Inv base E s a.tmps w) (hd : dstOk a.tmps.size o.dst = true) (hop : o.op = .call ⟨.builtin .append, args, ts⟩) (h : sem P mb o.dst s (.call ⟨.builtin .append, args, ts⟩) = some r) (happ : applyR o.dst s r = some s') : Ok1 P base E s' a o w := by
  simp only [sem] at h
  split at h
  · rename_i x y t t' hx ht
    have hax : args = #[x, y] := by apply Array.ext'; simpa using hx
    have hat : ts = #[t, t'] := by apply Array.ext'; simpa using ht
    subst hax hat
    split at h
    · rename_i htt; subst htt
      split at h
      · rename_i e _ _ _ hti
        obtain ⟨ti, d0, z0, h1, h2, h3, h4⟩ := tinf_spec hti
        injection h4 with h4 _ _ _
        obtain rfl := ofDesc_slice h4.symm
        split at h
        · rename_i i ys hi hys
          obtain ⟨tj, dj, zj, j1, j2, j3, rfl⟩ := tinf_spec hi
          split at h
          · rename_i hcond
            obtain ⟨c1, c2, c3⟩ := hcond
            simp only at c1 c2 c3
            have hyz : ∀ d ∈ ys, d.cells.length = tj.size ∧ ∀ c ∈ d.cells, c.flat = true := by
              intro d hd
              have := List.all_eq_true.1 c1 d hd
              simp only [Bool.and_eq_true, beq_iff_eq, List.all_eq_true] at this
              exact this
            have hzs : zj.cells.size = tj.size := by simpa using c3
            have hry := listOf_rel (hI.eval y) hys
            obtain ⟨A, ad, c, news, hvy, hyc, hym, hA, hFy, hcy, h1y⟩ := relD_flat hry hI.phi tj.size (fun d hd => (hyz d hd).1)
            -- the two ways
            have key : ∀ (k : Option Nat) (xs : List Dat) (v : Value) (inner : List Value) (s1 : ASt) (E1 : Env), Inv base E1 s1 a.tmps w → E1.Φ = E.Φ → E1.Ψ = E.Ψ → a.eval x = v → w.ownsRow base e tj.size v xs.length inner → FlatRel E.Φ tj.size xs inner → (∀ d ∈ xs, d.cells.length = tj.size) → (∀ d ∈ xs, ∀ c ∈ d.cells, c.flat = true) →
                (∀ g, v.ownBlock = some g → (∀ a : Addr, a.block = g → xs.length * tj.size ≤ a.off → E1.Ψ a = none) ∧ (∀ t, E1.β t ≠ some g) ∧ ∀ k u e' z', E1.γ k = some (u, e', z') → u.ownBlock ≠ some g) →
                (∀ g, v.ownBlock = some g → OwnB E g) → (∀ k, OwnB E1 k → OwnB E k) →
                (xs.length + ys.length) * tj.bytes ≤ 140737488355328 → xs.length + ys.length ≤ 9223372036854775807 → ∀ d, o.dst = some d → Ok1 P base E { (s1.kill d) with t := upd (s1.kill d).t d (.ow d e tj.size (xs ++ ys)) } a o w := by
              intro k xs v inner s1 E1 hI1 hΦ1 hΨ1 hv hown hFx hxz hxf hsep hoE hoE1 hb63 h63 d hdst
              obtain ⟨v', w', hrun, hown', hgr, hat⟩ := append_run (P := P) w base t o.type e tj zj h2 j1 j3 hzs c2 v xs.length inner hown A ad ys.length c news hA hFy.1 hcy h1y (by simp [maxLen]; omega) hb63 hI.hb
              have hsepd : ∀ g, v.ownBlock = some g → (∀ a : Addr, a.block = g → xs.length * tj.size ≤ a.off → (E1.kill d).Ψ a = none) ∧ (∀ t, (E1.kill d).β t ≠ some g) ∧ ∀ k u e' z', (E1.kill d).γ k = some (u, e', z') → u.ownBlock ≠ some g := by
                intro g hg
                obtain ⟨q1, q2, q3⟩ := hsep g hg
                refine ⟨q1, fun t => ?_, fun k u e' z' hk => ?_⟩
                · simp only [Env.kill]; split
                  · simp
                  · exact q2 t
                · simp only [Env.kill] at hk; split at hk
                  · cases hk
                  · exact q3 k u e' z' hk
              obtain ⟨k1, k2, k3, k4⟩ := (hI1.kill d).grow d e tj.size v v' xs.length (xs.length + ys.length) inner news (by simp [Env.kill]) hown hsepd hown' (by omega) hgr hat
              have hle : ∀ a u, E.Φ a = some u → rowExt (E1.kill d).Φ v' ((xs.length + ys.length) * tj.size) w' a = some u := fun a u ha => k2.phi a u (by show E1.Φ a = some u; rw [hΦ1]; exact ha)
              have hFR := (hFx.append hFy hxz).mono hle
              have hex : Ext base E E1 := ⟨fun a v h => by rw [hΦ1]; exact h, fun a v h => by rw [hΨ1]; exact h, fun a v h => by rw [hΨ1] at h; exact .inl h, fun a v h => by rw [hΦ1] at h; exact .inl h⟩
              have hz2 : ∀ d ∈ xs ++ ys, d.cells.length = tj.size := fun d hd => (List.mem_append.1 hd).elim (hxz d) (fun h => (hyz d h).1)
              have hf2 : ∀ d ∈ xs ++ ys, ∀ c ∈ d.cells, c.flat = true := fun d hd => (List.mem_append.1 hd).elim (hxf d) (fun h => (hyz d h).2)
              have hrel : RelD (rowExt (E1.kill d).Φ v' ((xs.length + ys.length) * tj.size) w') (.sl (xs ++ ys)) v' := by
                rcases hown'.2 with ⟨hv', hn0⟩ | ⟨g, cap, cur, hv', hbg, hhg, hnc, hcm, hcs, htk⟩
                · have : xs ++ ys = [] := List.eq_nil_of_length_eq_zero (by rw [List.length_append]; omega)
                  rw [this, hv']
                  exact RelD.sl [] none ⟨0, 0, none⟩ 0 0 (fun _ _ => Go.undef) (by simp) (by simp [maxLen]) (by simp) (by simp) (by simp) (by simp) (by simp)
                · have := flat_relD hFR hz2 hf2 (some ⟨g, 0, none⟩) ⟨g, 0, none⟩ cap (fun _ => rfl) (by rw [List.length_append]; exact hnc) (by rw [List.length_append]; simp [maxLen]; omega) (fun q u hq => by
                    have hq1 := (List.getElem?_eq_some_iff.1 hq).1
                    rw [hFR.1, List.length_append] at hq1
                    rw [addr_mk_add, Nat.zero_add]
                    unfold rowExt
                    rw [if_pos ⟨by rw [hv']; rfl, hq1⟩, own_cells hown' (by rw [hv']; rfl) q hq1]
                    exact hq)
                  rw [List.length_append] at this
                  rw [← hv'] at this; exact this
              have hput := k1.put o.dst (RelP.ow d e tj.size (xs ++ ys) v' hrel (by show upd (E1.kill d).γ d (some (v', e, tj.size)) d = _; simp [upd]) hz2) hd
              rw [hdst] at hput
              refine ⟨v', w', _, .inl ?_, by rw [hdst]; exact hput, k4, (hex.trans (Ext.kill base E1 d)).trans k3, fun q hq hn => hgr.block q hq (fun he => ?_), hgr.size, fun q ho => ?_⟩
              rotate_left
              · rcases hat with hat | hat
                · exact hn (hoE q (by rw [← hat]; exact he.symm))
                · rw [hat] at he; injection he with he; omega
              · rcases ho with ⟨t, ht⟩ | ⟨κ, u, e2, z2, hκ, hu⟩
                · exact .inl (hoE1 q (ownB_kill (.inl ⟨t, ht⟩)))
                · have hκ' : (if κ = d then some (v', e, tj.size) else (E1.kill d).γ κ) = some (u, e2, z2) := hκ
                  split at hκ'
                  · injection hκ' with hκ'; injection hκ' with q1 q2
                    subst q1
                    rcases hat with hat | hat
                    · exact .inl (hoE q (by rw [← hat]; exact hu))
                    · rw [hat] at hu; injection hu with hu; right; omega
                  · exact .inl (hoE1 q (ownB_kill (.inr ⟨κ, u, e2, z2, hκ', hu⟩)))
              have hvx : a.eval y = .slice A ys.length c := hvy
              simp [execOp, hop, hv, hvx, resolve, invoke, builtin, hrun]
            cases hdst : o.dst with
            | none =>
              split at h
              · split at h
                · injection h with h; subst h; rw [hdst] at happ; simp [applyR] at happ
                · cases h
              · split at h
                · injection h with h; subst h; rw [hdst] at happ; simp [applyR] at happ
                · cases h
              · cases h
            | some d =>
              have hxe := hI.eval x
              split at h
              · rename_i hcx
                split at h
                · rename_i hb
                  injection h with h; subst h
                  rw [hdst] at happ
                  simp only [applyR] at happ
                  injection happ with happ; subst happ
                  rw [hcx] at hxe
                  generalize hv : a.eval x = v at hxe
                  cases hxe
                  have := key none [] _ [] s E hI rfl rfl hv (World.ownsRow_nil w base e tj.size) (FlatRel.nil _ _) (by simp) (by simp) (by simp [Value.ownBlock]) (by simp [Value.ownBlock]) (fun _ h => h) (by simpa using hb.1) (by simpa using hb.2) d hdst
                  simpa using this
                · cases h
              · rename_i k e' z' xs hcx
                split at h
                · rename_i hb
                  obtain ⟨rfl, b2, b3, b4⟩ := hb
                  simp only at b2
                  subst b2
                  injection h with h; subst h
                  rw [hdst] at happ
                  simp only [applyR] at happ
                  injection happ with happ; subst happ
                  rw [hcx] at hxe
                  generalize hv : a.eval x = v at hxe
                  cases hxe with
                  | ow _ _ _ _ _ hr hk hz =>
                    obtain ⟨n, inner, hown, hsep⟩ := hI.row k v e' tj.size hk
                    obtain ⟨A', ad', c', inner', hv2, hxc, hxm, hA', hFx, hcx', h1x⟩ := relD_flat hr hI.phi tj.size hz
                    have hn : n = xs.length := by
                      rcases hown.2 with ⟨q1, q2⟩ | ⟨g, cap, cur, q1, _⟩ <;> rw [hv2] at q1 <;> injection q1 with q1 q3 q4 <;> omega
                    subst hn
                    have hinn : inner' = inner := by
                      apply List.ext_getElem?
                      intro q
                      rcases Nat.lt_or_ge q (xs.length * tj.size) with hq | hq
                      · have hpos : 0 < xs.length := by rcases Nat.eq_zero_or_pos xs.length with h0 | h0; · rw [h0] at hq; omega
                                                        · exact h0
                        have hA2 := hA' hpos
                        rcases hown.2 with ⟨q1, q2⟩ | ⟨g, cap, cur, q1, _⟩
                        · omega
                        · rw [hv2] at q1; injection q1 with q1 _ _
                          rw [hA2] at q1; injection q1 with q1
                          have hl : q < inner'.length := by rw [hFx.1]; exact hq
                          have e1 := hcx' q _ (List.getElem?_eq_getElem hl)
                          rw [q1, addr_mk_add, Nat.zero_add, own_cells hown (by rw [hv2, hA2, q1]; rfl) q hq] at e1
                          rw [e1]; exact List.getElem?_eq_getElem hl
                      · rw [List.getElem?_eq_none (by rw [hFx.1]; exact hq), List.getElem?_eq_none (by rw [hown.1]; exact hq)]
                    subst hinn
                    have hflat : ∀ d ∈ xs, ∀ c ∈ d.cells, c.flat = true := by
                      generalize hD : Dat.sl xs = D at hr
                      cases hr <;> simp at hD
                      subst hD; assumption
                    refine key (some k) xs v inner' (s.kill k) (E.kill k) (hI.kill k) rfl rfl hv hown hFx hz hflat (fun g hg => ⟨(hsep g hg).1, fun t => ?_, fun k' u e2 z2 hk' hu => ?_⟩) (fun g hg => .inr ⟨k, v, e', tj.size, hk, hg⟩) (fun _ h => ownB_kill h) b3 b4 d hdst
                    · simp only [Env.kill]; split
                      · simp
                      · exact (hsep g hg).2 t
                    · simp only [Env.kill] at hk'; split at hk'
                      · cases hk'
                      · rename_i hne
                        exact hne (hI.rinj k' k u v e2 e' z2 tj.size g hk' hk hu hg)
                · cases h
              · cases h
          · cases h
        · cases h
      · cases h
    · cases h
  · cases h

theorem sem_sound {r : Res} (hI : Inv base E s a.tmps w) (hd : dstOk a.tmps.size o.dst = true) (h : sem P mb o.dst s o.op = some r) (happ : applyR o.dst s r = some s') : Ok1 P base E s' a o w := by
  generalize hop : o.op = op at h
  cases op with
  | move x => simp only [sem] at h; injection h with h; subst h; exact ok_move hI hd (.inl hop) happ
  | assign x => simp only [sem] at h; injection h with h; subst h; exact ok_move hI hd (.inr hop) happ
  | pick c x y => exact ok_pick hI hd hop h happ
  | alloc t => exact ok_alloc hI hd hop h happ
  | box t x => exact ok_box hI hd hop h happ
  | build t ps => exact ok_build hI hd hop h happ
  | buildSlice t n ps => exact ok_buildSlice hI hd hop h happ
  | load t x => exact ok_load hI hd hop h happ
  | store t x y => exact ok_store hI hd hop h happ
  | nilCheck x => exact ok_nilCheck hI hd hop h happ
  | binOp op t x y t' => exact ok_binOp hI hd hop h happ
  | unOp op t x => exact ok_unOp hI hd hop h happ
  | convert t t' x => exact ok_convert hI hd hop h happ
  | makeFunc f first captured =>
    cases f with
    | func f => exact ok_makeFunc hI hd hop h happ
    | _ => simp [sem] at h
  | makeSlice t l c => exact ok_makeSlice hI hd hop h happ
  | slice t x lo hi m =>
    cases m with
    | none => exact ok_slice hI hd hop h happ
    | some m => simp [sem] at h
  | fieldAddr t x f => exact ok_fieldAddr hI hd hop h happ
  | field t x f => exact ok_field hI hd hop h happ
  | indexAddr t x y => exact ok_indexAddr hI hd hop h happ
  | index t x y => exact ok_index hI hd hop h happ
  | extract x i => exact ok_extract hI hd hop h happ
  | call c =>
    obtain ⟨callee, args, ts⟩ := c
    cases callee with
    | builtin b =>
      cases b with
      | len => exact ok_len hI hd hop h happ
      | append => exact ok_append hI hd hop h happ
      | _ => simp [sem] at h
    | _ => simp [sem] at h
  | _ => simp [sem] at h
end
end Go.Abs

/- Calls: what a function's contract says, and how a value is handed over. -/
set_option linter.unusedVariables false
set_option linter.unusedSimpArgs false
namespace Go.Abs
open Go Go.RowKit

def E0 (Φ Ψ : Mem) : Env := ⟨Φ, Ψ, fun _ => none, fun _ => none⟩
def RelArgs (E : Env) (ps : List PVal) (vs : List Value) : Prop := vs.length = ps.length ∧ ∀ (i : Nat) (p : PVal) (v : Value), ps[i]? = some p → vs[i]? = some v → RelP E p v

/-- The function, called with values that are told so, returns r; nothing that was there has turned. -/
def RCall (P : Program) (f : Nat) (ps : List PVal) (r : PVal) : Prop :=
  (∀ args w, (callFunc f args).run P w = .ok (.enter f args) w) ∧
  ∀ (Φ Ψ : Mem) (vs : List Value) (w : World), (∀ a v, Φ a = some v → w.cell? a = some v) → (∀ a v, Ψ a = some v → w.cell? a = some v) → (∀ a v, Φ a = some v → Ψ a = some v) → RelArgs (E0 Φ Ψ) ps vs →
    Calls P f vs.toArray w fun e w' => ∃ v Φ' Ψ', e = .returned v ∧ Below w.heap.size w w' ∧ (∀ a v, Φ a = some v → Φ' a = some v) ∧ (∀ a v, Ψ a = some v → Ψ' a = some v) ∧ (∀ a v, Φ' a = some v → Ψ' a = some v) ∧
      (∀ a v, Ψ' a = some v → w'.cell? a = some v) ∧ (∀ a v, Φ' a = some v → Φ a = some v ∨ w.heap.size ≤ a.block) ∧ (∀ a v, Ψ' a = some v → Ψ a = some v ∨ w.heap.size ≤ a.block) ∧ RelP (E0 Φ' Ψ') r v

/-- Data alone. -/
def PVal.isD : PVal → Bool
  | .dat _ | .undef => true
  | _ => false
def PVal.isDat : PVal → Bool
  | .tup vs => vs.all PVal.isD
  | p => p.isD

theorem RelP.isD {E E' : Env} {p : PVal} {v : Value} (h : RelP E p v) (hd : p.isD = true) (hΦ : E'.Φ = E.Φ) : RelP E' p v := by
  cases h <;> simp [PVal.isD] at hd
  · exact .undef
  · exact .dat _ _ (by rw [hΦ]; assumption)
theorem RelP.isDat {E E' : Env} {p : PVal} {v : Value} (h : RelP E p v) (hd : p.isDat = true) (hΦ : E'.Φ = E.Φ) : RelP E' p v := by
  cases p with
  | tup cs =>
    cases h with
    | tup cs vs hl hr => exact .tup cs vs hl (fun i p v hp hv => (hr i p v hp hv).isD (List.all_eq_true.1 hd p (List.mem_of_getElem? hp)) hΦ)
  | _ => exact h.isD hd hΦ

theorem mapO_spec {f : PVal → Option PVal} : ∀ {ps qs : List PVal}, mapO f ps = some qs → qs.length = ps.length ∧ (∀ (i : Nat) (p : PVal), ps[i]? = some p → ∃ q, qs[i]? = some q ∧ f p = some q) ∧ ∀ (i : Nat) (q : PVal), qs[i]? = some q → ∃ p, ps[i]? = some p ∧ f p = some q
  | [], qs, h => by simp [mapO] at h; subst h; simp
  | p :: ps, qs, h => by
    simp only [mapO] at h
    split at h
    · rename_i q qs' h1 h2
      injection h with h; subst h
      obtain ⟨g1, g2, g3⟩ := mapO_spec h2
      refine ⟨by simp [g1], fun i p' hp => ?_, fun i q' hq => ?_⟩
      · cases i with
        | zero => simp at hp; subst hp; exact ⟨q, by simp, h1⟩
        | succ i => simp at hp; simpa using g2 i p' hp
      · cases i with
        | zero => simp at hq; subst hq; exact ⟨p, by simp, h1⟩
        | succ i => simp at hq; simpa using g3 i q' hq
    · cases h

theorem mkAgg_flat (cs : List PVal) : (mkAgg cs).flat = false := by unfold mkAgg; split <;> rfl

theorem close_flat {h : Nat → Option (List PVal)} : ∀ {n : Nat} {p q : PVal}, closeP h n p = some q → (p.flat = true ∨ p = .top) → q.flat = true ∨ q = .top := by
  intro n p q hc hf
  cases n with
  | zero => simp [closeP] at hc
  | succ n =>
    cases p <;> simp only [closeP] at hc
    case top => injection hc with hc; exact .inr hc.symm
    case undef => simp [PVal.flat] at hf
    case dat d => injection hc with hc; subst hc; exact hf.imp id (fun h => by cases h)
    case nilS => injection hc with hc; subst hc; exact .inl rfl
    case ow => injection hc with hc; subst hc; exact .inl rfl
    case cptr cs => obtain ⟨qs, _, rfl⟩ := Option.map_eq_some_iff.1 hc; exact .inl rfl
    case bptr t off => split at hc
                       · obtain ⟨qs, _, rfl⟩ := Option.map_eq_some_iff.1 hc; exact .inl rfl
                       · cases hc
    case msl => cases hc
    case fn f cs => obtain ⟨qs, _, rfl⟩ := Option.map_eq_some_iff.1 hc; exact .inl rfl
    case agg cs => simp [PVal.flat] at hf
    case tup cs => simp [PVal.flat] at hf
    case fsl cs => obtain ⟨qs, _, rfl⟩ := Option.map_eq_some_iff.1 hc; exact .inl rfl
    case yld l => injection hc with hc; subst hc; exact .inl rfl

open Classical in
/-- f, and the cells of the boxes of h. -/
noncomputable def boxMem (E : Env) (w : World) (h : Nat → Option (List PVal)) (f : Mem) : Mem := fun a => if ∃ t cs, h t = some cs ∧ E.β t = some a.block then w.cell? a else f a

theorem boxMem_none (E : Env) (w : World) (f : Mem) : boxMem E w (fun _ => none) f = f := by
  funext a
  unfold boxMem
  rw [if_neg (by simp)]

section
variable {base : Nat} {E : Env} {s : ASt} {tm : Array Value} {w : World}

theorem boxMem_le (hI : Inv base E s tm w) {h : Nat → Option (List PVal)} {f : Mem} (hf : ∀ a v, f a = some v → E.Ψ a = some v) : ∀ a v, f a = some v → boxMem E w h f a = some v := by
  intro a v ha
  unfold boxMem
  split
  · exact hI.psi a v (hf a v ha)
  · exact ha
theorem boxMem_sound {h : Nat → Option (List PVal)} {f : Mem} (hf : ∀ a v, f a = some v → w.cell? a = some v) : ∀ a v, boxMem E w h f a = some v → w.cell? a = some v := by
  intro a v ha
  unfold boxMem at ha
  split at ha
  · exact ha
  · exact hf a v ha

/-- A value with the boxes' contents in the boxes' place. Φ' and Ψ' have what E has, Ψ' the boxes besides. -/
theorem close_rel (hI : Inv base E s tm w) {h : Nat → Option (List PVal)} (hsub : ∀ t cs, h t = some cs → s.h t = some cs) {Φ' Ψ' : Mem} (hΦ : ∀ a v, E.Φ a = some v → Φ' a = some v) (hΨ : ∀ a v, boxMem E w h E.Ψ a = some v → Ψ' a = some v) :
    ∀ (n : Nat) (p q : PVal) (v : Value), RelP E p v → closeP h n p = some q → RelP (E0 Φ' Ψ') q v := by
  have hΨ0 : ∀ a v, E.Ψ a = some v → Ψ' a = some v := fun a v ha => hΨ a v (boxMem_le hI (fun _ _ h => h) a v ha)
  intro n
  induction n with
  | zero => intro p q v _ hc; simp [closeP] at hc
  | succ n ih =>
    intro p q v hr hc
    cases hr with
    | top v => simp only [closeP] at hc; injection hc with hc; subst hc; exact .top v
    | undef => simp only [closeP] at hc; injection hc with hc; subst hc; exact .undef
    | dat d v hd => simp only [closeP] at hc; injection hc with hc; subst hc; exact .dat d v (hd.mono hΦ)
    | yld l => simp only [closeP] at hc; injection hc with hc; subst hc; exact .yld l
    | nilS =>
      simp only [closeP] at hc; injection hc with hc; subst hc
      exact .dat _ _ (RelD.sl [] none ⟨0, 0, none⟩ 0 0 (fun _ _ => Go.undef) (by simp) (by simp [maxLen]) (by simp) (by simp) (by simp) (by simp) (by simp))
    | ow k e z xs v hd hk hz => simp only [closeP] at hc; injection hc with hc; subst hc; exact .dat _ v (hd.mono hΦ)
    | cptr cs ad vals hΨc hf h1 hr =>
      simp only [closeP] at hc
      obtain ⟨qs, hq, rfl⟩ := Option.map_eq_some_iff.1 hc
      obtain ⟨g1, g2, g3⟩ := mapO_spec hq
      refine .cptr qs ad vals (fun i hi => hΨ0 _ _ (hΨc i (by omega))) (fun q hq => ?_) (fun i hi => h1 i (by omega)) (fun i q hq => ?_)
      · obtain ⟨i, hi, rfl⟩ := List.getElem_of_mem hq
        obtain ⟨p, hp, hpq⟩ := g3 i _ (List.getElem?_eq_getElem hi)
        exact close_flat hpq (hf p (List.mem_of_getElem? hp))
      · obtain ⟨p, hp, hpq⟩ := g3 i q hq
        exact ih p q _ (hr i p hp) hpq
    | bptr t off b hb =>
      simp only [closeP] at hc
      split at hc
      · rename_i cs hcs
        obtain ⟨qs, hq, rfl⟩ := Option.map_eq_some_iff.1 hc
        obtain ⟨g1, g2, g3⟩ := mapO_spec hq
        obtain ⟨b', c, e, k1, k2, k3, k4, k5⟩ := hI.box t cs (hsub t cs hcs)
        rw [hb] at k1; injection k1 with k1; subst k1
        have hcl : ∀ i, off + i < cs.length → c[off + i]? = some (c.getD (off + i) Go.undef) := fun i hi => by
          rw [Array.getElem?_eq_getElem (by omega)]; simp [show off + i < c.size by omega]
        have hget : ∀ i p, (cs.drop off)[i]? = some p → cs[off + i]? = some p ∧ off + i < cs.length := fun i p hp => by
          rw [List.getElem?_drop] at hp
          exact ⟨hp, (List.getElem?_eq_some_iff.1 hp).1⟩
        have hlen : ∀ i, i < qs.length → off + i < cs.length := fun i hi => by rw [g1, List.length_drop] at hi; omega
        refine .cptr qs _ (fun i => c.getD (off + i) Go.undef) (fun i hi => ?_) (fun q hq => ?_) (fun i hi => ?_) (fun i q hq => ?_)
        · refine hΨ _ _ ?_
          rw [addr_mk_add]
          unfold boxMem
          rw [if_pos ⟨t, cs, hcs, hb⟩, cell_of_row w b _ c e (0, 0) k2]
          exact hcl i (hlen i hi)
        · obtain ⟨i, hi, rfl⟩ := List.getElem_of_mem hq
          obtain ⟨p, hp, hpq⟩ := g3 i _ (List.getElem?_eq_getElem hi)
          exact close_flat hpq (k4 p (List.mem_of_getElem? (hget i p hp).1))
        · exact (k5 _ _ _ (List.getElem?_eq_getElem (hlen i hi)) (hcl i (hlen i hi))).2
        · obtain ⟨p, hp, hpq⟩ := g3 i q hq
          obtain ⟨e1, e2⟩ := hget i p hp
          exact ih p q _ (k5 _ _ _ e1 (hcl i e2)).1 hpq
      · cases hc
    | msl t n' b c hb hc' hm => simp [closeP] at hc
    | fn f caps vs hl hr =>
      simp only [closeP] at hc
      obtain ⟨qs, hq, rfl⟩ := Option.map_eq_some_iff.1 hc
      obtain ⟨g1, g2, g3⟩ := mapO_spec hq
      exact .fn f qs vs (by omega) (fun i q u hq hu => by
        obtain ⟨p, hp, hpq⟩ := g3 i q hq
        exact ih p q u (hr i p u hp hu) hpq)
    | agg cs vs hl h1 hf hr =>
      simp only [closeP] at hc
      obtain ⟨qs, hq, rfl⟩ := Option.map_eq_some_iff.1 hc
      obtain ⟨g1, g2, g3⟩ := mapO_spec hq
      exact mkAgg_rel (by omega) h1 (fun q hq => by
        obtain ⟨i, hi, rfl⟩ := List.getElem_of_mem hq
        obtain ⟨p, hp, hpq⟩ := g3 i _ (List.getElem?_eq_getElem hi)
        exact close_flat hpq (hf p (List.mem_of_getElem? hp))) (fun i q u hq hu => by
        obtain ⟨p, hp, hpq⟩ := g3 i q hq
        exact ih p q u (hr i p u hp hu) hpq)
    | tup cs vs hl hr =>
      simp only [closeP] at hc
      obtain ⟨qs, hq, rfl⟩ := Option.map_eq_some_iff.1 hc
      obtain ⟨g1, g2, g3⟩ := mapO_spec hq
      exact .tup qs vs (by omega) (fun i q u hq hu => by
        obtain ⟨p, hp, hpq⟩ := g3 i q hq
        exact ih p q u (hr i p u hp hu) hpq)
    | fsl xs A ad c vals hc' hm hA hΨc hf h1 hr =>
      simp only [closeP] at hc
      obtain ⟨qs, hq, rfl⟩ := Option.map_eq_some_iff.1 hc
      obtain ⟨g1, g2, g3⟩ := mapO_spec hq
      have := RelP.fsl (E := E0 Φ' Ψ') qs A ad c vals (by omega) (by omega) (by rw [g1]; exact hA) (fun i hi => hΨ0 _ _ (hΨc i (by omega))) (fun q hq => by
        obtain ⟨i, hi, rfl⟩ := List.getElem_of_mem hq
        obtain ⟨p, hp, hpq⟩ := g3 i _ (List.getElem?_eq_getElem hi)
        exact close_flat hpq (hf p (List.mem_of_getElem? hp))) (fun i hi => h1 i (by omega)) (fun i q hq => by
        obtain ⟨p, hp, hpq⟩ := g3 i q hq
        exact ih p q _ (hr i p hp) hpq)
      rw [g1] at this
      exact this

/-- At a return. -/
theorem closeR_rel (hI : Inv base E s tm w) {Φ' Ψ' : Mem} (hΦ : ∀ a v, boxMem E w s.h E.Φ a = some v → Φ' a = some v) (hΨ : ∀ a v, boxMem E w s.h E.Ψ a = some v → Ψ' a = some v) {p q : PVal} {v : Value} (hr : RelP E p v) (hc : closeR s.h p = some q) :
    RelP (E0 Φ' Ψ') q v := by
  have hΦ0 : ∀ a v, E.Φ a = some v → Φ' a = some v := fun a v ha => hΦ a v (boxMem_le hI hI.sub a v ha)
  unfold closeR at hc
  split at hc
  · rename_i t n
    split at hc
    · rename_i cs hcs
      split at hc
      · rename_i hlen
        obtain ⟨ds, hd, rfl⟩ := Option.map_eq_some_iff.1 hc
        obtain ⟨d1, d2⟩ := datsOf_get hd
        cases hr with
        | msl t' n' b c hb hc' hm =>
          obtain ⟨b', ar, e, k1, k2, k3, k4, k5⟩ := hI.box t cs hcs
          rw [hb] at k1; injection k1 with k1; subst k1
          have hel : ∀ j, j < ds.length → ∃ p d u, cs[j]? = some p ∧ ds[j]? = some d ∧ ar[j]? = some u ∧ datOf p = some d ∧ RelP E p u ∧ u.oneCell' = true := by
            intro j hj
            obtain ⟨d, e1, e2⟩ := d2 j (cs[j]'(by omega)) (List.getElem?_eq_getElem (by omega))
            have := k5 j _ (ar[j]'(by omega)) (List.getElem?_eq_getElem (show j < cs.length by omega)) (Array.getElem?_eq_getElem (by omega))
            exact ⟨_, d, _, List.getElem?_eq_getElem (by omega), e1, Array.getElem?_eq_getElem (by omega), e2, this.1, this.2⟩
          -- a cell's datum has one cell
          have hone : ∀ {p : PVal} {d : Dat} {u : Value}, RelP E p u → u.oneCell' = true → datOf p = some d → d.flat = true ∧ d.cells = [d] := by
            intro p d u hr hu hd
            have hrd := datOf_rel hr hd
            cases hrd <;> first | (simp [Value.oneCell'] at hu; done) | exact ⟨rfl, rfl⟩
          have := RelD.sl (Φ := Φ') ds (some ⟨b, 0, none⟩) ⟨b, 0, none⟩ c 1 (fun j _ => ar.getD j Go.undef) (by omega) (by omega) (fun _ => rfl) (fun d hd => by
              obtain ⟨j, hj, rfl⟩ := List.getElem_of_mem hd
              obtain ⟨p, d, u, q1, q2, q3, q4, q5, q6⟩ := hel j hj
              rw [List.getElem?_eq_getElem hj] at q2; injection q2 with q2
              rw [q2, (hone q5 q6 q4).2]; rfl) (fun d hd c' hc' => by
              obtain ⟨j, hj, rfl⟩ := List.getElem_of_mem hd
              obtain ⟨p, d, u, q1, q2, q3, q4, q5, q6⟩ := hel j hj
              rw [List.getElem?_eq_getElem hj] at q2; injection q2 with q2
              rw [q2, (hone q5 q6 q4).2] at hc'
              simp at hc'; subst hc'
              exact (hone q5 q6 q4).1) (fun j i hj hi => by
              obtain ⟨p, d, u, q1, q2, q3, q4, q5, q6⟩ := hel j hj
              refine hΦ _ _ ?_
              have : i = 0 := by omega
              subst this
              rw [addr_mk_add]
              unfold boxMem
              rw [if_pos ⟨t, cs, hcs, hb⟩, cell_of_row w b _ ar e (0, 0) k2, Nat.zero_add, Nat.mul_one, Nat.add_zero, q3]
              rw [Array.getD_eq_getD_getElem?, q3]; rfl) (fun j i d c' hj hc' => by
              obtain ⟨p, d', u, q1, q2, q3, q4, q5, q6⟩ := hel j (List.getElem?_eq_some_iff.1 hj).1
              rw [hj] at q2; injection q2 with q2; subst q2
              rw [(hone q5 q6 q4).2] at hc'
              cases i with
              | zero =>
                simp at hc'; subst hc'
                rw [Array.getD_eq_getD_getElem?, q3]
                exact (datOf_rel q5 q4).mono hΦ0
              | succ i => simp at hc')
          rw [d1, hlen] at this
          exact .dat _ _ this
      · cases hc
    · cases hc
  · exact close_rel hI (fun _ _ h => h) hΦ0 hΨ 9 p q v hr hc
end
end Go.Abs

/- One operation, a list of operations in a given order: the machine does what the abstract state says. -/
set_option linter.unusedVariables false
set_option linter.unusedSimpArgs false
namespace Go.Abs
open Go Go.RowKit

/-- Is the operation carried out? -/
def wantedA (ops : Array Oper) (s : ASt) (g : Option (Nat × Bool)) : Option Bool := match g with
  | none => some true
  | some (j, want) => match (ops[j]?).bind (·.dst) with
    | some t => match s.t t with
      | .dat (.bool b) => some (b == want)
      | .undef => some false
      | _ => none
    | none => some false

def isCall (op : Op) : Option (Operand × Array Operand) := match op with
  | .call ⟨.value f, args, _⟩ => some (f, args)
  | _ => none

/-- Which function is called, with which values; true: none of them leads to a box. -/
def callOf (s : ASt) (f : Operand) (args : Array Operand) : Option (Nat × List PVal × Bool) := match s.eval f with
  | .fn g caps => match mapO (closeP (fun _ => none) 9) (args.toList.map s.eval ++ caps) with
    | some qs => some (g, qs, true)
    | none => match mapO (closeP s.h 9) (args.toList.map s.eval ++ caps) with
      | some qs => some (g, qs, false)
      | none => none
  | _ => none

def AStep (P : Program) (mb : List Nat) (N : Nat) (ops : Array Oper) (i : Nat) (s s' : ASt) (acc : Acc) : Prop :=
  ∃ o, ops[i]? = some o ∧ dstOk N o.dst = true ∧
    ((wantedA ops s o.guard = some false ∧ s' = s.put o.dst .undef ∧ acc = .no) ∨
     (wantedA ops s o.guard = some true ∧ ∃ r, sem P mb o.dst s o.op = some r ∧ applyR o.dst s r = some s' ∧ acc = accOf s o.op r) ∨
     (wantedA ops s o.guard = some true ∧ ∃ f args g qs b r, isCall o.op = some (f, args) ∧ callOf s f args = some (g, qs, b) ∧ (b = true ∨ r.isDat = true) ∧ RCall P g qs r ∧ s' = s.put o.dst r ∧ acc = callAcc b))

inductive ARun (P : Program) (mb : List Nat) (N : Nat) (ops : Array Oper) : List Nat → ASt → ASt → List (Nat × Acc) → Prop
  | nil (s : ASt) : ARun P mb N ops [] s s []
  | cons {i : Nat} {L : List Nat} {s s1 s' : ASt} {acc : Acc} {tr : List (Nat × Acc)} (h : AStep P mb N ops i s s1 acc) (k : ARun P mb N ops L s1 s' tr) : ARun P mb N ops (i :: L) s s' ((i, acc) :: tr)

section
variable {P : Program} {base : Nat} {E : Env} {s s' : ASt} {a : Act} {w : World} {mb : List Nat} {ops : Array Oper} {Q : Exit → Act → World → Prop}

theorem wanted_sound (hI : Inv base E s a.tmps w) {o : Oper} {b : Bool} (h : wantedA ops s o.guard = some b) : Region.wanted o (yielded ops a.tmps) = b := by
  unfold wantedA at h
  unfold Region.wanted
  split at h
  · rename_i hg; rw [hg]; injection h
  · rename_i j want hg
    rw [hg]
    simp only
    unfold yielded
    split at h
    · rename_i t ht
      rw [ht]
      have ht' := hI.tm t
      simp only [Option.bind_some]
      split at h
      · rename_i c hc
        rw [hc] at ht'
        have hv := rel_bool ht'
        have : a.tmps[t]? = some (.bool c) := by
          rw [Array.getD_eq_getD_getElem?] at hv
          cases hx : a.tmps[t]? with
          | none => rw [hx] at hv; simp [Go.undef] at hv
          | some u => rw [hx] at hv; simp at hv; rw [hv]
        rw [this]
        injection h
      · rename_i hc
        rw [hc] at ht'
        injection h with h; subst h
        generalize hv : a.tmps.getD t Go.undef = v at ht'
        cases ht'
        rw [Array.getD_eq_getD_getElem?] at hv
        cases hx : a.tmps[t]? with
        | none => simp
        | some u => rw [hx] at hv; simp at hv; rw [hv]; first | done | simp [Go.undef]
      · cases h
    · rename_i ht
      rw [ht]
      have h' : b = false := by simpa using h.symm
      rw [h']; rfl

/-- What a step leaves, K being told of it. -/
theorem astep_sound {N i : Nat} {acc : Acc} (hI : Inv base E s a.tmps w) (hN : a.tmps.size = N) (h : AStep P mb N ops i s s' acc) {K : Act → World → Prop}
    (hK : ∀ a' w' E', Inv base E' s' a'.tmps w' → a'.tmps.size = N → a'.defers = a.defers → Below base w w' → ExtF base E w E' w' → K a' w') : wpOp P ops Q i K a w := by
  obtain ⟨o, ho, hd, h⟩ := h
  unfold wpOp
  rw [ho]
  simp only
  subst hN
  rcases h with ⟨hw, rfl, -⟩ | ⟨hw, r, hs, ha, -⟩ | ⟨hw, f, args, g, qs, b, r, hc, hcall, hb, hR, rfl, -⟩
  · rw [wanted_sound hI hw, if_neg (by simp)]
    exact hK _ _ E (by rw [put_tmps]; exact hI.put o.dst .undef hd) (by rw [put_tmps, putT_size]) (put_defers _ _ _) (Below.refl _ _) (ExtF.refl _ _ _)
  · rw [wanted_sound hI hw, if_pos rfl]
    left
    obtain ⟨v, w', E', hrun, h1, h2, h3⟩ := sem_sound hI hd hs ha
    unfold Oper.wp
    have hk := hK (a.put o.dst v) w' E' (by rw [put_tmps]; exact h1) (by rw [put_tmps, putT_size]) (put_defers _ _ _) h2 h3
    rcases hrun with hrun | ⟨hrun, rfl⟩
    · rw [hrun]; exact hk
    · rw [hrun]; exact hk
  · rw [wanted_sound hI hw, if_pos rfl]
    left
    -- the call
    unfold isCall at hc
    split at hc
    · rename_i f' args' ts hop
      injection hc with hc
      simp only [Prod.mk.injEq] at hc
      obtain ⟨rfl, rfl⟩ := hc
      have hfe := hI.eval f'
      unfold callOf at hcall
      split at hcall
      · rename_i g' caps hf
        rw [hf] at hfe
        generalize hfv : a.eval f' = fv at hfe
        cases hfe with
        | fn _ _ cvs hcl hcr =>
          -- the values that are handed over
          have hargs : ∀ (i : Nat) (p : PVal) (v : Value), (args'.toList.map s.eval ++ caps)[i]? = some p → (args'.toList.map a.eval ++ cvs)[i]? = some v → RelP E p v := by
            intro i p v hp hv
            rcases Nat.lt_or_ge i args'.toList.length with hi | hi
            · rw [List.getElem?_append_left (by simpa using hi), List.getElem?_map] at hp hv
              obtain ⟨x, hx, rfl⟩ := Option.map_eq_some_iff.1 hp
              rw [hx] at hv; injection hv with hv; subst hv
              exact hI.eval x
            · rw [List.getElem?_append_right (by simpa using hi)] at hp hv
              simp only [List.length_map] at hp hv
              exact hcr _ p v hp hv
          have hlen : (args'.toList.map a.eval ++ cvs).length = (args'.toList.map s.eval ++ caps).length := by simp [hcl]
          have henter : (execOp a.eval o).run P w = (callFunc g' (args'.toList.map a.eval ++ cvs).toArray).run P w := by
            have e : args'.map a.eval ++ cvs.toArray = (args'.toList.map a.eval ++ cvs).toArray := by apply Array.ext'; simp
            simp only [execOp, hop, resolve, hfv, Deferred.ofValue, Sem.run_bind, Sem.run_pure, Result.andThen_ok, invoke]
            rw [show (#[] ++ args'.map a.eval : Array Value) = args'.map a.eval by simp, e]
          -- the callee's environment
          have key : ∀ (Ψc : Mem) (g0 : Nat) (qs0 : List PVal), g0 = g' → RelArgs (E0 E.Φ Ψc) qs0 (args'.toList.map a.eval ++ cvs) → (∀ a v, E.Ψ a = some v → Ψc a = some v) → (∀ a v, Ψc a = some v → w.cell? a = some v) → RCall P g0 qs0 r → (Ψc = E.Ψ ∨ r.isDat = true) →
              Oper.wp P o a w K Q := by
            intro Ψc g0 qs0 hg0 hrel hle hsound hR hcase
            subst hg0
            obtain ⟨hent, hcalls⟩ := hR
            unfold Oper.wp
            rw [henter, hent]
            show Calls P g0 _ w _
            refine (hcalls E.Φ Ψc _ w hI.phi hsound (fun a v ha => hle a v (hI.sub a v ha)) hrel).mono ?_
            rintro e w' ⟨v, Φ', Ψ', rfl, hB, q1, q2, q3, q4, q5, q6, hres⟩
            have hbelow : Below base w w' := hB.mono hI.hb
            by_cases hperm : Ψc = E.Ψ
            · subst hperm
              let E'' : Env := { E with Φ := Φ', Ψ := Ψ' }
              have hle2 : E.le E'' := ⟨q1, q2, fun _ _ h => h, fun _ _ h => h⟩
              have hI2 : Inv base E'' s a.tmps w' := hI.env hle2 rfl rfl (fun a v h => q4 a v (q3 a v h)) q4 q3 q6 (fun k hk => hB.block k hk) hB.size
              have hle3 : (E0 Φ' Ψ').le E'' := ⟨fun _ _ h => h, fun _ _ h => h, fun _ _ h => by simp [E0] at h, fun _ _ h => by simp [E0] at h⟩
              have hr2 : RelP E'' r v := hres.mono hle3
              exact hK _ _ E'' (by rw [put_tmps]; exact hI2.put o.dst hr2 hd) (by rw [put_tmps, putT_size]) (put_defers _ _ _) hbelow ⟨⟨q1, q2, fun a v h => (q6 a v h).imp id (fun h => Nat.le_trans hI.hb h), fun a v h => (q5 a v h).imp id (fun h => Nat.le_trans hI.hb h)⟩, Fr.sameOwn (fun k hk => hB.block k hk) hB.size rfl rfl⟩
            · have hdat := hcase.resolve_left hperm
              let Ψ2 : Mem := fun a => if a.block < w.heap.size then E.Ψ a else Φ' a
              let E'' : Env := { E with Φ := Φ', Ψ := Ψ2 }
              have p2 : ∀ a v, E.Ψ a = some v → Ψ2 a = some v := fun a v ha => by show (if _ then _ else _) = _; rw [if_pos (hI.psi_lt ha)]; exact ha
              have hle2 : E.le E'' := ⟨q1, p2, fun _ _ h => h, fun _ _ h => h⟩
              have p4 : ∀ a v, Ψ2 a = some v → w'.cell? a = some v := by
                intro a v ha
                have ha' : (if a.block < w.heap.size then E.Ψ a else Φ' a) = some v := ha
                split at ha'
                · rename_i hlt
                  rw [hB.cell hlt]; exact hI.psi a v ha'
                · exact q4 a v (q3 a v ha')
              have p3 : ∀ a v, Φ' a = some v → Ψ2 a = some v := by
                intro a v ha
                show (if a.block < w.heap.size then E.Ψ a else Φ' a) = some v
                split
                · rename_i hlt
                  rcases q5 a v ha with h | h
                  · exact hI.sub a v h
                  · omega
                · exact ha
              have p6 : ∀ a v, Ψ2 a = some v → E.Ψ a = some v ∨ w.heap.size ≤ a.block := by
                intro a v ha
                have ha' : (if a.block < w.heap.size then E.Ψ a else Φ' a) = some v := ha
                split at ha'
                · exact .inl ha'
                · right; omega
              have hI2 : Inv base E'' s a.tmps w' := hI.env hle2 rfl rfl (fun a v h => p4 a v (p3 a v h)) p4 p3 p6 (fun k hk => hB.block k hk) hB.size
              have hr2 : RelP E'' r v := hres.isDat hdat rfl
              exact hK _ _ E'' (by rw [put_tmps]; exact hI2.put o.dst hr2 hd) (by rw [put_tmps, putT_size]) (put_defers _ _ _) hbelow ⟨⟨q1, p2, fun a v h => (p6 a v h).imp id (fun h => Nat.le_trans hI.hb h), fun a v h => (q5 a v h).imp id (fun h => Nat.le_trans hI.hb h)⟩, Fr.sameOwn (fun k hk => hB.block k hk) hB.size rfl rfl⟩
          split at hcall
          · rename_i qs' hq
            injection hcall with hcall
            simp only [Prod.mk.injEq] at hcall
            obtain ⟨rfl, rfl, rfl⟩ := hcall
            obtain ⟨m1, m2, m3⟩ := mapO_spec hq
            refine key E.Ψ _ _ rfl ⟨by omega, fun i q v hq' hv => ?_⟩ (fun _ _ h => h) hI.psi hR (.inl rfl)
            obtain ⟨p, hp, hpq⟩ := m3 i q hq'
            exact close_rel hI (h := fun _ => none) (by simp) (fun _ _ h => h) (by rw [boxMem_none]; exact fun _ _ h => h) 9 p q v (hargs i p v hp hv) hpq
          · split at hcall
            · rename_i qs' hq
              injection hcall with hcall
              simp only [Prod.mk.injEq] at hcall
              obtain ⟨rfl, rfl, rfl⟩ := hcall
              obtain ⟨m1, m2, m3⟩ := mapO_spec hq
              refine key (boxMem E w s.h E.Ψ) _ _ rfl ⟨by omega, fun i q v hq' hv => ?_⟩ (boxMem_le hI (fun _ _ h => h)) (boxMem_sound hI.psi) hR (.inr (hb.resolve_left (by simp)))
              obtain ⟨p, hp, hpq⟩ := m3 i q hq'
              exact close_rel hI (h := s.h) (fun _ _ h => h) (fun _ _ h => h) (fun _ _ h => h) 9 p q v (hargs i p v hp hv) hpq
            · cases hcall
      · cases hcall
    · cases hc

theorem arun_sound {N : Nat} {L : List Nat} {tr : List (Nat × Acc)} (h : ARun P mb N ops L s s' tr) : ∀ {E : Env} {a : Act} {w : World}, Inv base E s a.tmps w → a.tmps.size = N →
    (∀ a' w' E', Inv base E' s' a'.tmps w' → a'.tmps.size = N → a'.defers = a.defers → Below base w w' → ExtF base E w E' w' → Q .normal a' w') → wpOps P ops Q L a w := by
  induction h with
  | nil s => intro E a w hI hN hQ; exact hQ a w E hI hN rfl (Below.refl _ _) (ExtF.refl _ _ _)
  | cons h k ih =>
    intro E a w hI hN hQ
    rw [wpOps_cons]
    exact astep_sound hI hN h (fun a' w' E' h1 h2 h3 h4 h5 => ih h1 h2 (fun a2 w2 E2 g1 g2 g3 g4 g5 => hQ a2 w2 E2 g1 g2 (g3.trans h3) (h4.trans g4) (h5.trans g5)))
end
end Go.Abs

/- A region whose order is drawn: operations that do not touch each other may be taken in any order. -/
set_option linter.unusedVariables false
set_option linter.unusedSimpArgs false
namespace Go.Abs
open Go Go.RowKit

def clash : Option Nat → Option Nat → Bool
  | some t, some u => t == u
  | _, _ => false
def memApart (x y : Acc) : Bool := decide (x ≠ .bad) && decide (y ≠ .bad) && !clash x.wr y.rd && !clash y.wr x.rd && !(x.wr.isSome && decide (y = .call)) && !(y.wr.isSome && decide (x = .call))
theorem clash_ne {x y : Option Nat} {t u : Nat} (h : clash x y = false) (hx : x = some t) (hy : y = some u) : t ≠ u := by subst hx hy; simpa [clash] using h
theorem memApart_spec {x y : Acc} (h : memApart x y = true) : x ≠ .bad ∧ y ≠ .bad ∧ clash x.wr y.rd = false ∧ clash y.wr x.rd = false ∧ (∀ t, x.wr = some t → y ≠ .call) ∧ (∀ t, y.wr = some t → x ≠ .call) := by
  simp only [memApart, Bool.and_eq_true, Bool.not_eq_true', Bool.and_eq_false_iff, decide_eq_false_iff_not] at h
  obtain ⟨⟨⟨⟨⟨hx, hy⟩, h1⟩, h2⟩, h3⟩, h4⟩ := h
  exact ⟨by simpa using hx, by simpa using hy, h1, h2, fun t ht => h3.resolve_left (by simp [ht]), fun t ht => h4.resolve_left (by simp [ht])⟩
theorem Acc.wr_rd {x : Acc} {t : Nat} (h : x.wr = some t) : x.rd = some t := by cases x <;> simp_all [Acc.wr, Acc.rd]

def befVal (o : Oper) (A : List Nat) : Nat := o.after.toList.foldl (fun s e => if Region.binds .any e then s ||| 2 ^ e.on ||| A.getD e.on 0 else s) 0
def befs : List Oper → List Nat → List Nat
  | [], A => A
  | o :: os, A => befs os (A ++ [befVal o A])

def edgesOk : Nat → List Oper → Bool
  | _, [] => true
  | i, o :: os => o.after.toList.all (fun e => !Region.binds .any e || decide (e.on < i)) && edgesOk (i + 1) os

def apartOp (ops : Array Oper) (i j : Nat) : Bool := match ops[i]?, ops[j]? with
  | some x, some y => x.apart ops y
  | _, _ => false

def pairOk (ops : Array Oper) (B : List Nat) (x y : Nat × Acc) : Bool := (B.getD y.1 0).testBit x.1 || (apartOp ops x.1 y.1 && memApart x.2 y.2)
def pairsOk (ops : Array Oper) (B : List Nat) : List (Nat × Acc) → Bool
  | [] => true
  | x :: tr => tr.all (pairOk ops B x) && pairsOk ops B tr
def orderOk (ops : Array Oper) (tr : List (Nat × Acc)) : Bool :=
  edgesOk 0 ops.toList && pairsOk ops (befs ops.toList []) tr

/-! ### edges -/
theorem edgesOk_spec : ∀ (os : List Oper) (i : Nat), edgesOk i os = true → ∀ (j : Nat) (o : Oper), os[j]? = some o → ∀ e ∈ o.after, Region.binds .any e = true → e.on < i + j
  | [], i, _, j, o, h, _, _, _ => by simp at h
  | x :: os, i, h, j, o, hj, e, he, hb => by
    simp only [edgesOk, Bool.and_eq_true] at h
    cases j with
    | zero =>
      simp at hj; subst hj
      have := List.all_eq_true.1 h.1 e (by simpa using he)
      simp [hb] at this
      exact this
    | succ j =>
      have := edgesOk_spec os (i + 1) h.2 j o (by simpa using hj) e he hb
      omega

theorem befFold (A : List Nat) (k : Nat) : ∀ (l : List Edge) (s0 : Nat), (l.foldl (fun s e => if Region.binds .any e then s ||| 2 ^ e.on ||| A.getD e.on 0 else s) s0).testBit k = true →
    s0.testBit k = true ∨ ∃ e ∈ l, Region.binds .any e = true ∧ (e.on = k ∨ (A.getD e.on 0).testBit k = true)
  | [], s0, h => .inl h
  | e :: l, s0, h => by
    simp only [List.foldl_cons] at h
    rcases befFold A k l _ h with h | ⟨e', h1, h2⟩
    · split at h
      · rename_i hb
        simp only [Nat.testBit_or, Bool.or_eq_true] at h
        rcases h with (h | h) | h
        · exact .inl h
        · refine .inr ⟨e, by simp, hb, .inl ?_⟩
          rw [Nat.testBit_two_pow] at h
          simpa using h
        · exact .inr ⟨e, by simp, hb, .inr h⟩
      · exact .inl h
    · exact .inr ⟨e', List.mem_cons_of_mem _ h1, h2⟩

theorem befs_spec : ∀ (os : List Oper) (A : List Nat), (∃ ext, befs os A = A ++ ext ∧ ext.length = os.length) ∧ ∀ (j : Nat) (o : Oper), os[j]? = some o → (befs os A)[A.length + j]? = some (befVal o ((befs os A).take (A.length + j)))
  | [], A => ⟨⟨[], by simp [befs], rfl⟩, fun j o h => by simp at h⟩
  | x :: os, A => by
    obtain ⟨⟨ext, h1, h2⟩, h3⟩ := befs_spec os (A ++ [befVal x A])
    refine ⟨⟨befVal x A :: ext, by simp [befs, h1], by simp [h2]⟩, fun j o hj => ?_⟩
    simp only [befs]
    cases j with
    | zero =>
      simp at hj; subst hj
      rw [h1]
      simp
    | succ j =>
      have := h3 j o (by simpa using hj)
      simp only [List.length_append, List.length_singleton] at this
      rw [show A.length + (j + 1) = A.length + 1 + j by omega]
      exact this

theorem bef_dep {os : List Oper} {i k : Nat} {o : Oper} (ho : os[i]? = some o) (h : ((befs os []).getD i 0).testBit k = true) : ∃ e ∈ o.after, Region.binds .any e = true ∧ (e.on = k ∨ ((befs os []).getD e.on 0).testBit k = true) := by
  have := (befs_spec os []).2 i o ho
  simp only [List.length_nil, Nat.zero_add] at this
  rw [List.getD_eq_getElem?_getD, this] at h
  simp only [Option.getD_some, befVal] at h
  rcases befFold _ k _ _ h with h | ⟨e, h1, h2, h3⟩
  · simp at h
  · refine ⟨e, by simpa using h1, h2, h3.imp id (fun h => ?_)⟩
    rw [List.getD_eq_getElem?_getD] at h ⊢
    rcases Nat.lt_or_ge e.on i with hlt | hge
    · rwa [List.getElem?_take_of_lt hlt] at h
    · rw [List.getElem?_eq_none (by rw [List.length_take]; omega)] at h
      simp at h

/-! ### what an operation looks at -/
theorem eval_congr {s t : ASt} {x : Operand} (h : ∀ u, x = .tmp u → t.t u = s.t u) : t.eval x = s.eval x := by
  cases x with
  | tmp u => exact h u rfl
  | _ => rfl

/-- The box that an operation reads or writes. -/
def boxOf (s : ASt) : Op → Option Nat
  | .load _ a | .store _ a _ => match s.eval a with
    | .bptr b _ => some b
    | _ => none
  | _ => none

def Res.isM : Res → Bool
  | .newM _ _ => true
  | _ => false
theorem sem_make {P : Program} {mb : List Nat} {dst : Option Nat} {s : ASt} {ty : Nat} {l c : Operand} {r : Res} (h : sem P mb dst s (.makeSlice ty l c) = some r) : r.isM = true := by
  simp only [sem] at h
  split at h
  · split at h
    · split at h
      · split at h
        · injection h with h; subst h; rfl
        · cases h
      · cases h
    · cases h
  · cases h
def Op.isMake : Op → Bool
  | .makeSlice _ _ _ => true
  | _ => false
theorem sem_congr0 {P : Program} {mb : List Nat} {dst : Option Nat} {s t : ASt} {op : Op} (hmk : Op.isMake op = false) (he : ∀ x ∈ op.operands, t.eval x = s.eval x) (hb : ∀ b, boxOf s op = some b → t.h b = s.h b) : sem P mb dst t op = sem P mb dst s op := by
  cases op with
  | move x | assign x => simp only [sem]; rw [he x (by simp [Op.operands])]
  | pick c x y => simp only [sem]; rw [he c (by simp [Op.operands]), he x (by simp [Op.operands]), he y (by simp [Op.operands])]
  | alloc t => rfl
  | box t x => simp only [sem]; rw [he x (by simp [Op.operands])]
  | build ty ps =>
    have hm : ps.toList.map (fun (i, x) => (i, t.eval x)) = ps.toList.map (fun (i, x) => (i, s.eval x)) := List.map_congr_left fun p hp => by
      obtain ⟨i, x⟩ := p
      simp only
      rw [he x (by simp only [Op.operands]; simp; exact ⟨i, by simpa using hp⟩)]
    simp only [sem]; rw [hm]
  | buildSlice ty n ps =>
    have hm : ps.toList.map (fun (i, x) => (i, t.eval x)) = ps.toList.map (fun (i, x) => (i, s.eval x)) := List.map_congr_left fun p hp => by
      obtain ⟨i, x⟩ := p
      simp only
      rw [he x (by simp only [Op.operands]; simp; exact ⟨i, by simpa using hp⟩)]
    simp only [sem]; rw [hm]
  | load ty x =>
    have hx := he x (by simp [Op.operands])
    simp only [sem]; rw [hx]
    have hb' := hb
    simp only [boxOf] at hb'
    cases hs : s.eval x with
    | bptr b off => rw [hs] at hb'; have hq := hb' b rfl; simp only [hq]
    | _ => rfl
  | store ty x y =>
    have hx := he x (by simp [Op.operands])
    have hy := he y (by simp [Op.operands])
    simp only [sem]; rw [hx, hy]
    have hb' := hb
    simp only [boxOf] at hb'
    cases hs : s.eval x with
    | bptr b off => rw [hs] at hb'; have hq := hb' b rfl; simp only [hq]
    | _ => rfl
  | nilCheck x => simp only [sem]; rw [he x (by simp [Op.operands])]
  | binOp op ty x y ty' => simp only [sem]; rw [he x (by simp [Op.operands]), he y (by simp [Op.operands])]
  | unOp op ty x => simp only [sem]; rw [he x (by simp [Op.operands])]
  | convert ty ty' x => simp only [sem]; rw [he x (by simp [Op.operands])]
  | makeFunc f first captured =>
    cases f with
    | func f =>
      have hm : captured.toList.map t.eval = captured.toList.map s.eval := List.map_congr_left fun x hx => he x (by simp only [Op.operands]; exact Array.mem_append.2 (.inr (by simpa using hx)))
      simp only [sem]; rw [hm]
    | _ => rfl
  | makeSlice ty l c => simp [Op.isMake] at hmk
  | slice ty x lo hi m =>
    cases m with
    | some m => rfl
    | none =>
      have hx := he x (by simp [Op.operands])
      have hlo : lo.map t.eval = lo.map s.eval := by
        cases lo with
        | none => rfl
        | some l => simp only [Option.map_some]; rw [he l (by simp [Op.operands])]
      have hhi : hi.map t.eval = hi.map s.eval := by
        cases hi with
        | none => rfl
        | some l => simp only [Option.map_some]; rw [he l (by simp [Op.operands])]
      simp only [sem]; rw [hx, hlo, hhi]
  | fieldAddr ty x f => simp only [sem]; rw [he x (by simp [Op.operands])]
  | field ty x f => simp only [sem]; rw [he x (by simp [Op.operands])]
  | indexAddr ty x y => simp only [sem]; rw [he x (by simp [Op.operands]), he y (by simp [Op.operands])]
  | index ty x y => simp only [sem]; rw [he x (by simp [Op.operands]), he y (by simp [Op.operands])]
  | extract x i => simp only [sem]; rw [he x (by simp [Op.operands])]
  | call c =>
    obtain ⟨callee, args, ts⟩ := c
    cases callee with
    | builtin b =>
      cases b with
      | len =>
        simp only [sem]
        split
        · rename_i x ty hx _
          have hmem : x ∈ (Op.call ⟨.builtin .len, args, ts⟩).operands := by
            have : args = #[x] := by apply Array.ext'; simpa using hx
            subst this; simp [Op.operands, Call.operands]
          rw [he x hmem]
        · rfl
      | append =>
        simp only [sem]
        split
        · rename_i x y ty ty' hx _
          have hax : args = #[x, y] := by apply Array.ext'; simpa using hx
          subst hax
          rw [he x (by simp [Op.operands, Call.operands]), he y (by simp [Op.operands, Call.operands])]
        · rfl
      | _ => rfl
    | _ => rfl
  | _ => rfl

theorem sem_congr {P : Program} {mb : List Nat} {dst : Option Nat} {s t : ASt} {op : Op} {r : Res} (hs : sem P mb dst s op = some r) (hr : r.isM = false) (he : ∀ x ∈ op.operands, t.eval x = s.eval x) (hb : ∀ b, boxOf s op = some b → t.h b = s.h b) : sem P mb dst t op = some r := by
  rw [sem_congr0 ?_ he hb]; · exact hs
  cases op with
  | makeSlice ty l c => rw [sem_make hs] at hr; cases hr
  | _ => rfl

/-- The effect of a step that is not 'bad': one temporary, one box. -/
def setH (h : Nat → Option (List PVal)) (b : Option (Nat × List PVal)) : Nat → Option (List PVal) := match b with
  | some (t, cs) => upd h t (some cs)
  | none => h
def setT (f : Nat → PVal) (d : Option Nat) (p : PVal) : Nat → PVal := match d with
  | some d => upd f d p
  | none => f
def ASt.eff (s : ASt) (d : Option Nat) (p : PVal) (b : Option (Nat × List PVal)) : ASt := ⟨setT s.t d p, setH s.h b⟩
theorem put_eff (s : ASt) (d : Option Nat) (p : PVal) : s.put d p = s.eff d p none := by cases d <;> rfl
theorem put_eff' (s : ASt) (d : Option Nat) (p : PVal) (t : Nat) (cs : List PVal) : ({ s with h := upd s.h t (some cs) } : ASt).put d p = s.eff d p (some (t, cs)) := by cases d <;> rfl
theorem setT_at {f : Nat → PVal} {d : Option Nat} {p : PVal} {u : Nat} (h : d ≠ some u) : setT f d p u = f u := by
  cases d with
  | none => rfl
  | some d => simp only [setT, upd]; rw [if_neg (fun e => h (by rw [e]))]
theorem setH_at {h : Nat → Option (List PVal)} {b : Option (Nat × List PVal)} {u : Nat} (hb : ∀ t cs, b = some (t, cs) → t ≠ u) : setH h b u = h u := by
  cases b with
  | none => rfl
  | some z => obtain ⟨t, cs⟩ := z; simp only [setH, upd]; rw [if_neg (fun e => hb t cs rfl e.symm)]

theorem upd_comm {α : Type} (f : Nat → α) {i j : Nat} (x y : α) (h : i ≠ j) : upd (upd f i x) j y = upd (upd f j y) i x := by
  funext k
  simp only [upd]
  by_cases h1 : k = j <;> by_cases h2 : k = i <;> simp_all

section
variable {P : Program} {mb : List Nat} {N : Nat} {ops : Array Oper}

theorem guard_congr {o : Oper} {s t : ASt} (h : ∀ d, d ∈ o.looksAt ops → t.t d = s.t d) : wantedA ops t o.guard = wantedA ops s o.guard := by
  unfold wantedA
  cases hg : o.guard with
  | none => rfl
  | some g =>
    obtain ⟨j, want⟩ := g
    simp only
    cases ht : (ops[j]?).bind (·.dst) with
    | none => rfl
    | some u =>
      simp only
      rw [h u (by simp [Oper.looksAt, hg, ht])]

theorem operand_looks {o : Oper} {u : Nat} (h : Operand.tmp u ∈ o.op.operands) : u ∈ o.looksAt ops :=
  List.mem_append_left _ (List.mem_filterMap.2 ⟨.tmp u, by simpa using h, rfl⟩)

/-- A step's effect, and that it is the same in any state that agrees on what the operation looks at. -/
theorem astep_eff {i : Nat} {s s' : ASt} {acc : Acc} {o : Oper} (ho : ops[i]? = some o) (h : AStep P mb N ops i s s' acc) (hbad : acc ≠ .bad) :
    ∃ p b, s' = s.eff o.dst p b ∧ (∀ t cs, b = some (t, cs) → acc.wr = some t) ∧
      ∀ u : ASt, (∀ d, d ∈ o.looksAt ops → u.t d = s.t d) → (∀ t, acc.rd = some t → u.h t = s.h t) → (acc = .call → u.h = s.h) → AStep P mb N ops i u (u.eff o.dst p b) acc := by
  obtain ⟨o', ho', hd, h⟩ := h
  rw [ho] at ho'; injection ho' with ho'; subst ho'
  have hev : ∀ u : ASt, (∀ d, d ∈ o.looksAt ops → u.t d = s.t d) → ∀ x ∈ o.op.operands, u.eval x = s.eval x := fun u hu x hx => eval_congr fun d hxd => by subst hxd; exact hu d (operand_looks hx)
  rcases h with ⟨hw, rfl, rfl⟩ | ⟨hw, r, hs, ha, rfl⟩ | ⟨hw, f, args, g, qs, b, r, hc, hcall, hb, hR, rfl, rfl⟩
  · exact ⟨.undef, none, put_eff _ _ _, by simp, fun u hu _ _ => ⟨o, ho, hd, .inl ⟨by rw [guard_congr hu]; exact hw, (put_eff _ _ _).symm, rfl⟩⟩⟩
  · cases r with
    | val p =>
      simp only [applyR] at ha; injection ha with ha; subst ha
      refine ⟨p, none, put_eff _ _ _, by simp, fun u hu hbx _ => ?_⟩
      have hse : sem P mb o.dst u o.op = some (.val p) := by
        refine sem_congr (s := s) hs rfl (hev u hu) (fun b hb => ?_)
        generalize hop : o.op = op at *
        cases op <;> simp [boxOf] at hb
        · rename_i ty x
          refine hbx b ?_
          simp only [accOf]
          split at hb <;> simp_all [Acc.rd]
        · rename_i ty x y
          -- a store's result is no value
          exfalso
          simp only [sem] at hs
          split at hs
          · split at hs
            · split at hs
              · obtain ⟨cs, _, he⟩ := Option.map_eq_some_iff.1 hs; cases he
              · cases hs
            · cases hs
          · cases hs
      refine ⟨o, ho, hd, .inr (.inl ⟨by rw [guard_congr hu]; exact hw, .val p, hse, by simp only [applyR, put_eff], ?_⟩)⟩
      simp only [accOf]
      generalize hop : o.op = op at *
      cases op with
      | load ty x => simp only; rw [hev u hu x (by simp [Op.operands])]
      | _ => rfl
    | put t cs =>
      simp only [applyR] at ha; injection ha with ha; subst ha
      refine ⟨.undef, some (t, cs), put_eff' _ _ _ _ _, fun t' cs' he => by injection he with he; simp only [Prod.mk.injEq] at he; rw [← he.1]; rfl, fun u hu hbx _ => ?_⟩
      have hse : sem P mb o.dst u o.op = some (.put t cs) := by
        refine sem_congr (s := s) hs rfl (hev u hu) (fun b hb => ?_)
        generalize hop : o.op = op at *
        cases op <;> simp [boxOf] at hb
        · rename_i ty x
          exfalso
          simp only [sem] at hs
          split at hs
          · split at hs
            · obtain ⟨p, _, he⟩ := Option.map_eq_some_iff.1 hs; cases he
            · split at hs
              · obtain ⟨p, _, he⟩ := Option.map_eq_some_iff.1 hs; cases he
              · cases hs
            · cases hs
          · cases hs
        · rename_i ty x y
          refine hbx b ?_
          simp only [accOf, Acc.rd]
          simp only [sem] at hs
          split at hs
          · rename_i b' off hx
            split at hs
            · split at hs
              · obtain ⟨cs', _, he⟩ := Option.map_eq_some_iff.1 hs
                injection he with he1 he2
                subst he1
                rw [hx] at hb
                simp at hb
                rw [hb]
              · cases hs
            · cases hs
          · cases hs
      exact ⟨o, ho, hd, .inr (.inl ⟨by rw [guard_congr hu]; exact hw, .put t cs, hse, by simp only [applyR, put_eff'], rfl⟩)⟩
    | newD d cs =>
      simp only [applyR] at ha
      split at ha
      · rename_i d' hdst
        split at ha
        · rename_i hdd
          subst hdd
          split at ha
          · rename_i hh
            injection ha with ha; subst ha
            refine ⟨.bptr d 0, some (d, cs), ?_, fun t' cs' he => by injection he with he; simp only [Prod.mk.injEq] at he; rw [← he.1]; rfl, fun u hu hbx _ => ?_⟩
            · rw [hdst]; exact put_eff' _ _ _ _ _
            have hse : sem P mb o.dst u o.op = some (.newD d cs) := by
              refine sem_congr (s := s) hs rfl (hev u hu) (fun b hb => ?_)
              exfalso
              generalize hop : o.op = op at *
              cases op <;> simp [boxOf] at hb
              · rename_i ty x
                simp only [sem] at hs
                split at hs
                · split at hs
                  · obtain ⟨p, _, he⟩ := Option.map_eq_some_iff.1 hs; cases he
                  · split at hs
                    · obtain ⟨p, _, he⟩ := Option.map_eq_some_iff.1 hs; cases he
                    · cases hs
                  · cases hs
                · cases hs
              · rename_i ty x y
                simp only [sem] at hs
                split at hs
                · split at hs
                  · split at hs
                    · obtain ⟨cs', _, he⟩ := Option.map_eq_some_iff.1 hs; cases he
                    · cases hs
                  · cases hs
                · cases hs
            refine ⟨o, ho, hd, .inr (.inl ⟨by rw [guard_congr hu]; exact hw, .newD d cs, hse, ?_, rfl⟩)⟩
            have hud : u.h d = none := by rw [hbx d rfl]; exact hh
            simp only [applyR, hdst, if_true, hud]
            rw [put_eff']
          · cases ha
        · cases ha
      · cases ha
    | newB cs => exact absurd rfl hbad
    | newM nm cs => exact absurd rfl hbad
    | app k e z xs => exact absurd rfl hbad
  · refine ⟨r, none, put_eff _ _ _, by simp, fun u hu _ hcl => ?_⟩
    have hcu : callOf u f args = some (g, qs, b) := by
      unfold isCall at hc
      split at hc
      · rename_i f' args' ts hop
        injection hc with hc
        simp only [Prod.mk.injEq] at hc
        obtain ⟨rfl, rfl⟩ := hc
        have hf : u.eval f' = s.eval f' := hev u hu f' (by rw [hop]; simp [Op.operands, Call.operands])
        have hm : args'.toList.map u.eval = args'.toList.map s.eval := List.map_congr_left fun x hx => hev u hu x (by rw [hop]; simp only [Op.operands, Call.operands]; exact Array.mem_append.2 (.inr (by simpa using hx)))
        unfold callOf at hcall ⊢
        rw [hf, hm]
        cases b with
        | false => rw [hcl rfl]; exact hcall
        | true =>
          split at hcall
          · split at hcall
            · exact hcall
            · split at hcall
              · injection hcall with hcall; simp at hcall
              · cases hcall
          · cases hcall
      · cases hc
    exact ⟨o, ho, hd, .inr (.inr ⟨by rw [guard_congr hu]; exact hw, f, args, g, qs, b, r, hc, hcu, hb, hR, (put_eff _ _ _).symm, rfl⟩)⟩

theorem swap {i j : Nat} {s s1 s2 : ASt} {x y : Acc} (hi : AStep P mb N ops i s s1 x) (hj : AStep P mb N ops j s1 s2 y) (hap : apartOp ops i j = true) (hm : memApart x y = true) :
    ∃ s1', AStep P mb N ops j s s1' y ∧ AStep P mb N ops i s1' s2 x := by
  have hi' := hi
  have hj' := hj
  obtain ⟨oi, hoi, -⟩ := hi'
  obtain ⟨oj, hoj, -⟩ := hj'
  simp only [apartOp, hoi, hoj] at hap
  obtain ⟨a1, a2, a3⟩ := Oper.apart_spec hap
  obtain ⟨hx, hy, m1, m2, m3, m4⟩ := memApart_spec hm
  obtain ⟨p, b, rfl, hb, hup⟩ := astep_eff hoi hi hx
  obtain ⟨q, c, rfl, hc, huq⟩ := astep_eff hoj hj hy
  clear hi hj
  refine ⟨s.eff oj.dst q c, huq s (fun d hd => (setT_at (fun e => a1 d e hd)).symm) (fun t ht => (setH_at (fun t' cs he => clash_ne m1 (hb t' cs he) ht)).symm) (fun hcall => ?_), ?_⟩
  · cases b with
    | none => rfl
    | some z => exact absurd hcall (m3 _ (hb z.1 z.2 rfl))
  · have := hup (s.eff oj.dst q c) (fun d hd => setT_at (fun e => a3 d e hd)) (fun t ht => setH_at (fun t' cs he => clash_ne m2 (hc t' cs he) ht)) (fun hcall => by
      cases c with
      | none => rfl
      | some z => exact absurd hcall (m4 _ (hc z.1 z.2 rfl)))
    have hh : setH (setH s.h c) b = setH (setH s.h b) c := by
      cases b with
      | none => rfl
      | some z =>
        cases c with
        | none => rfl
        | some z' =>
          obtain ⟨t, cs⟩ := z
          obtain ⟨t', cs'⟩ := z'
          exact upd_comm _ _ _ (fun e => clash_ne m1 (hb t cs rfl) (Acc.wr_rd (hc t' cs' rfl)) e.symm)
    have ht : setT (setT s.t oj.dst q) oi.dst p = setT (setT s.t oi.dst p) oj.dst q := by
      cases h1 : oi.dst with
      | none => rfl
      | some d =>
        cases h2 : oj.dst with
        | none => rfl
        | some d' => exact upd_comm _ _ _ (fun e => a2 d h1 (by rw [h2, e]))
    have he : (s.eff oj.dst q c).eff oi.dst p b = (s.eff oi.dst p b).eff oj.dst q c := by
      simp only [ASt.eff, hh, ht]
    rw [he] at this
    exact this

theorem move_front : ∀ (R1 : List Nat) {i : Nat} {R2 : List Nat} {s s' : ASt} {tr : List (Nat × Acc)}, ARun P mb N ops (R1 ++ i :: R2) s s' tr →
    ∃ acc tr1 tr2, tr = tr1 ++ (i, acc) :: tr2 ∧ tr1.map (·.1) = R1 ∧ ((∀ x ∈ tr1, apartOp ops x.1 i = true ∧ memApart x.2 acc = true) → ∃ s1, AStep P mb N ops i s s1 acc ∧ ARun P mb N ops (R1 ++ R2) s1 s' (tr1 ++ tr2))
  | [], i, R2, s, s', tr, h => by
    cases h with
    | cons h k => exact ⟨_, [], _, rfl, rfl, fun _ => ⟨_, h, k⟩⟩
  | k :: R1, i, R2, s, s', tr, h => by
    cases h with
    | cons h hr =>
      rename_i sk acck trk
      obtain ⟨acc, tr1, tr2, rfl, h2, h3⟩ := move_front R1 hr
      refine ⟨acc, (k, acck) :: tr1, tr2, rfl, by simp [h2], fun hall => ?_⟩
      obtain ⟨s1, g1, g2⟩ := h3 (fun x hx => hall x (List.mem_cons_of_mem _ hx))
      obtain ⟨q1, q2⟩ := hall (k, acck) (by simp)
      obtain ⟨s1', w1, w2⟩ := swap h g1 q1 q2
      exact ⟨s1', w1, .cons w2 g2⟩

theorem arun_map : ∀ {L : List Nat} {s s' : ASt} {tr : List (Nat × Acc)}, ARun P mb N ops L s s' tr → tr.map (·.1) = L
  | _, _, _, _, .nil _ => rfl
  | _, _, _, _, .cons h k => by simp [arun_map k]

theorem pairsOk_pairwise {B : List Nat} : ∀ {tr : List (Nat × Acc)}, pairsOk ops B tr = true → tr.Pairwise (fun x y => pairOk ops B x y = true)
  | [], _ => .nil
  | x :: tr, h => by
    simp only [pairsOk, Bool.and_eq_true] at h
    exact .cons (fun y hy => List.all_eq_true.1 h.1 y hy) (pairsOk_pairwise h.2)

theorem any_sound {base : Nat} {Q : Exit → Act → World → Prop} (hedge : edgesOk 0 ops.toList = true) : ∀ (fuel : Nat) (R : List Nat) (listed : Array Bool) {E : Env} {s s' : ASt} {a : Act} {w : World} {tr : List (Nat × Acc)}, ARun P mb N ops R s s' tr → R.length = fuel → listed.size = ops.size →
    R.Pairwise (· < ·) → (∀ i, i ∈ R ↔ i < ops.size ∧ listed.getD i true = false) → (∀ k o, ops[k]? = some o → listed.getD k false = true → ∀ e ∈ o.after, Region.binds .any e = true → listed.getD e.on false = true) →
    tr.Pairwise (fun x y => pairOk ops (befs ops.toList []) x y = true) → Inv base E s a.tmps w → a.tmps.size = N →
    (∀ a' w' E', Inv base E' s' a'.tmps w' → a'.tmps.size = N → a'.defers = a.defers → Below base w w' → ExtF base E w E' w' → Q .normal a' w') → wpAny P .any ops Q fuel listed a w := by
  intro fuel
  have ready_nil : ∀ (R : List Nat) (listed : Array Bool), R.Pairwise (· < ·) → (∀ i, i ∈ R ↔ i < ops.size ∧ listed.getD i true = false) → listed.size = ops.size → Region.ready .any ops listed = [] → R = [] := by
    intro R listed hsort hmem hsz hr
    cases R with
    | nil => rfl
    | cons i R =>
      exfalso
      have hi := (hmem i).1 (by simp)
      have hin : i ∈ Region.ready .any ops listed := by
        rw [mem_ready]
        refine ⟨hi.2, ops[i]'hi.1, Array.getElem?_eq_getElem hi.1, fun e he hb => ?_⟩
        have hlt := edgesOk_spec _ 0 hedge i (ops[i]'hi.1) (by simp [hi.1]) e he hb
        rw [Nat.zero_add] at hlt
        have hnot : ¬ e.on ∈ (i :: R) := by
          intro hm
          rcases List.mem_cons.1 hm with h | h
          · omega
          · have := List.rel_of_pairwise_cons hsort h; omega
        have hlis : listed.getD e.on true = true := by
          by_cases hx : listed.getD e.on true = true
          · exact hx
          · exact absurd ((hmem e.on).2 ⟨by omega, by simpa using hx⟩) hnot
        have hb2 : e.on < listed.size := by omega
        simpa [Array.getD, hb2] using hlis
      rw [hr] at hin; cases hin
  induction fuel with
  | zero =>
    intro R listed E s s' a w tr hrun hlen hsz hsort hmem hclosed hpair hI hN hQ
    have hR : R = [] := List.eq_nil_of_length_eq_zero hlen
    subst hR
    cases hrun
    refine ⟨?_, hQ a w E hI hN rfl (Below.refl _ _) (ExtF.refl _ _ _)⟩
    cases hr : Region.ready .any ops listed with
    | nil => rfl
    | cons i rs =>
      have hi : i ∈ Region.ready .any ops listed := by rw [hr]; simp
      obtain ⟨h1, o, h2, _⟩ := mem_ready.1 hi
      exact absurd ((hmem i).2 ⟨(Array.getElem?_eq_some_iff.1 h2).1, h1⟩) (by simp)
  | succ fuel ih =>
    intro R listed E s s' a w tr hrun hlen hsz hsort hmem hclosed hpair hI hN hQ
    refine ⟨fun hr => ?_, fun i hi => ?_⟩
    · have := ready_nil R listed hsort hmem hsz hr
      subst this; simp at hlen
    · obtain ⟨hun, o, ho, hdeps⟩ := mem_ready.1 hi
      have hin : i ∈ R := (hmem i).2 ⟨(Array.getElem?_eq_some_iff.1 ho).1, hun⟩
      obtain ⟨R1, R2, rfl⟩ := List.append_of_mem hin
      obtain ⟨acc, tr1, tr2, rfl, h2, h3⟩ := move_front R1 hrun
      -- what lies before i in the text and is not carried out yet does not bind it
      have hlisted : ∀ n, ∀ i o, i < n → ops[i]? = some o → (∀ e ∈ o.after, Region.binds .any e = true → listed.getD e.on false = true) → ∀ k, ((befs ops.toList []).getD i 0).testBit k = true → listed.getD k false = true := by
        intro n
        induction n with
        | zero => intro i o h; omega
        | succ n ihn =>
          intro i o hlt ho hd k hk
          obtain ⟨e, e1, e2, e3⟩ := bef_dep (os := ops.toList) (o := o) (by simpa using ho) hk
          have hon := hd e e1 e2
          rcases e3 with e3 | e3
          · rw [← e3]; exact hon
          · have hlt2 := edgesOk_spec _ 0 hedge i o (by simpa using ho) e e1 e2
            have hsz2 : e.on < ops.size := by have := (Array.getElem?_eq_some_iff.1 ho).1; omega
            exact ihn e.on (ops[e.on]'hsz2) (by omega) (Array.getElem?_eq_getElem hsz2) (hclosed e.on _ (Array.getElem?_eq_getElem hsz2) hon) k e3
      have hall : ∀ x ∈ tr1, apartOp ops x.1 i = true ∧ memApart x.2 acc = true := by
        intro x hx
        have hp := (List.pairwise_append.1 hpair).2.2 x hx (i, acc) (by simp)
        simp only [pairOk, Bool.or_eq_true, Bool.and_eq_true] at hp
        rcases hp with hp | hp
        · exfalso
          have hl := hlisted (i + 1) i o (by omega) ho hdeps x.1 hp
          have hxR : x.1 ∈ R1 ++ i :: R2 := List.mem_append_left _ (by rw [← h2]; exact List.mem_map_of_mem hx)
          have := ((hmem x.1).1 hxR)
          have hb2 : x.1 < listed.size := by omega
          simp [Array.getD, hb2] at this hl
          rw [this.2] at hl; cases hl
        · exact hp
      obtain ⟨s1, g1, g2⟩ := h3 hall
      have hni : i ∉ R1 ++ R2 := by
        intro hm
        have hnd : (R1 ++ i :: R2).Nodup := hsort.imp (fun h => by omega)
        rw [List.nodup_append] at hnd
        rcases List.mem_append.1 hm with hm | hm
        · exact hnd.2.2 i hm i (by simp) rfl
        · exact (List.nodup_cons.1 hnd.2.1).1 hm
      have hilt : i < listed.size := by rw [hsz]; exact (Array.getElem?_eq_some_iff.1 ho).1
      refine astep_sound hI hN g1 (fun a' w' E' k1 k2 k3 k4 k5 => ?_)
      refine ih (R1 ++ R2) (listed.setIfInBounds i true) g2 (by simp at hlen ⊢; omega) (by simpa using hsz) ?_ (fun j => ?_) (fun k ok hk hkl e he hb => ?_) ?_ k1 k2 (fun a2 w2 E2 q1 q2 q3 q4 q5 => hQ a2 w2 E2 q1 q2 (q3.trans k3) (k4.trans q4) (k5.trans q5))
      · rw [List.pairwise_append] at hsort ⊢
        exact ⟨hsort.1, (List.pairwise_cons.1 hsort.2.1).2, fun x hx y hy => hsort.2.2 x hx y (List.mem_cons_of_mem _ hy)⟩
      · have hj : j ∈ R1 ++ R2 ↔ j ∈ R1 ++ i :: R2 ∧ j ≠ i := by
          constructor
          · intro hm
            refine ⟨?_, fun e => hni (e ▸ hm)⟩
            rcases List.mem_append.1 hm with hm | hm
            · exact List.mem_append_left _ hm
            · exact List.mem_append_right _ (List.mem_cons_of_mem _ hm)
          · rintro ⟨hm, hne⟩
            rcases List.mem_append.1 hm with hm | hm
            · exact List.mem_append_left _ hm
            · exact List.mem_append_right _ ((List.mem_cons.1 hm).resolve_left hne)
        rw [hj, hmem j]
        by_cases hji : j = i
        · subst hji; simp [hilt]
        · rw [getD_set_ne true (Ne.symm hji)]; simp [hji]
      · by_cases hki : k = i
        · subst hki
          rw [ho] at hk; injection hk with hk; subst hk
          exact getD_set_true (hdeps e he hb)
        · rw [getD_set_ne false (Ne.symm hki)] at hkl
          exact getD_set_true (hclosed k ok hk hkl e he hb)
      · rw [List.pairwise_append] at hpair ⊢
        exact ⟨hpair.1, (List.pairwise_cons.1 hpair.2.1).2, fun x hx y hy => hpair.2.2 x hx y (List.mem_cons_of_mem _ hy)⟩

theorem range_sorted (n : Nat) : (List.range n).Pairwise (· < ·) := List.pairwise_lt_range

/-- A region, its order drawn or not. -/
theorem region_sound {base : Nat} {Q : Exit → Act → World → Prop} (hmix : P.follows .mixedOrders = true) {id : Nat} {draw : Bool} {E : Env} {s s' : ASt} {a : Act} {w : World} {tr : List (Nat × Acc)} (hrun : ARun P mb N ops (List.range ops.size) s s' tr)
    (hok : draw = true → orderOk ops tr = true) (hI : Inv base E s a.tmps w) (hN : a.tmps.size = N)
    (hQ : ∀ a' w' E', Inv base E' s' a'.tmps w' → a'.tmps.size = N → a'.defers = a.defers → Below base w w' → ExtF base E w E' w' → Q .normal a' w') : (Code.region id ops draw).wp P Q a w := by
  cases draw with
  | false => exact wp_region (arun_sound hrun hI hN hQ)
  | true =>
    have hk := hok rfl
    simp only [orderOk, Bool.and_eq_true] at hk
    refine wp_region_any hmix (any_sound (base := base) (E := E) hk.1 ops.size (List.range ops.size) (Array.replicate ops.size false) hrun (by simp) (by simp) (range_sorted _) (fun i => ?_) (fun k o hk hkl => ?_) (pairsOk_pairwise hk.2) ?_ hN (fun a' w' E' h1 h2 h3 h4 h5 => hQ a' w' E' h1 h2 h3 ((Below.drew (Below.refl base w)).trans h4) ⟨h5.toExt, h5.toFr.same, h5.toFr.grew, h5.toFr.own⟩))
    · rw [List.mem_range]
      constructor
      · intro h; exact ⟨h, by simp [Array.getD, h]⟩
      · exact fun h => h.1
    · exfalso
      have : (Array.replicate ops.size false).getD k false = false := by simp [Array.getD]
      rw [this] at hkl; cases hkl
    · exact hI.env (Env.le.refl _) rfl rfl (w' := w.drew) hI.phi hI.psi hI.sub (fun a v h => .inl h) (fun _ _ => rfl) (Nat.le_refl _)
end
end Go.Abs

/- The abstract weakest precondition of a function's code, and that it is sound. -/
set_option linter.unusedVariables false
set_option linter.unusedSimpArgs false
namespace Go.Abs
open Go Go.RowKit

inductive AExit where
  | normal | exit (id : Nat) | ret

def AExit.toExit : AExit → Exit
  | .normal => .normal
  | .exit id => .exit id
  | .ret => .ret

/-- The operations of a region, in the text's order. -/
def AOps (P : Program) (mb : List Nat) (N : Nat) (ops : Array Oper) : Nat → List Oper → ASt → List (Nat × Acc) → (ASt → List (Nat × Acc) → Prop) → Prop
  | _, [], s, tr, K => K s tr
  | i, o :: os, s, tr, K => dstOk N o.dst = true ∧ match wantedA ops s o.guard with
    | some b => if b = true then match isCall o.op with
        | some (f, args) => match callOf s f args with
          | some (g, qs, b) => ∃ r, (b = true ∨ r.isDat = true) ∧ RCall P g qs r ∧ AOps P mb N ops (i + 1) os (s.put o.dst r) (tr ++ [(i, callAcc b)]) K
          | none => False
        | none => match sem P mb o.dst s o.op with
          | some r => match applyR o.dst s r with
            | some s' => AOps P mb N ops (i + 1) os s' (tr ++ [(i, accOf s o.op r)]) K
            | none => False
          | none => False
      else AOps P mb N ops (i + 1) os (s.put o.dst .undef) (tr ++ [(i, .no)]) K
    | none => False

def seqK (next : ASt → Prop) (Q : AExit → ASt → Prop) : AExit → ASt → Prop
  | .normal, s => next s
  | e, s => Q e s
def blockK (id : Nat) (Q : AExit → ASt → Prop) : AExit → ASt → Prop
  | .exit i, s => if i = id then Q .normal s else Q (.exit i) s
  | e, s => Q e s
def loopK (I : ASt → Prop) (μ : ASt → Nat) (s0 : ASt) (Q : AExit → ASt → Prop) : AExit → ASt → Prop
  | .normal, s => I s ∧ μ s < μ s0
  | e, s => Q e s

def AWp (P : Program) (mb : List Nat) (N : Nat) : Code → (AExit → ASt → Prop) → ASt → Prop
  | .skip, Q, s => Q .normal s
  | .region id ops draw, Q, s => AOps P mb N ops 0 ops.toList (ASt.killL (freshOf mb id) s) [] fun s' tr => (draw = true → orderOk ops tr = true) ∧ Q .normal s'
  | .seq a b, Q, s => AWp P mb N a (seqK (AWp P mb N b Q) Q) s
  | .cond c a b, Q, s => match s.eval c with
    | .dat (.bool t) => if t = true then AWp P mb N a Q s else AWp P mb N b Q s
    | _ => False
  | .block id c, Q, s => AWp P mb N c (blockK id Q) s
  | .loop c, Q, s => ∃ (I : ASt → Prop) (μ : ASt → Nat), I s ∧ ∀ s', I s' → AWp P mb N c (loopK I μ s' Q) s'
  | .exit id, Q, s => Q (.exit id) s
  | .ret, Q, s => Q .ret s
  | _, _, _ => False

section
variable {P : Program} {mb : List Nat} {N : Nat} {ops : Array Oper}

theorem aops_run : ∀ (os : List Oper) (i : Nat) (s : ASt) (tr : List (Nat × Acc)) (K : ASt → List (Nat × Acc) → Prop), (∀ j, os[j]? = ops[i + j]?) → AOps P mb N ops i os s tr K →
    ∃ s' tr', ARun P mb N ops (List.range' i os.length) s s' tr' ∧ K s' (tr ++ tr')
  | [], i, s, tr, K, _, h => ⟨s, [], .nil s, by simpa [AOps] using h⟩
  | o :: os, i, s, tr, K, hos, h => by
    have ho : ops[i]? = some o := by have := hos 0; simpa using this.symm
    have hos' : ∀ j, os[j]? = ops[i + 1 + j]? := fun j => by have := hos (j + 1); rw [show i + (j + 1) = i + 1 + j by omega] at this; simpa using this
    simp only [AOps] at h
    obtain ⟨hd, h⟩ := h
    have fin : ∀ (s1 : ASt) (acc : Acc), AStep P mb N ops i s s1 acc → AOps P mb N ops (i + 1) os s1 (tr ++ [(i, acc)]) K → ∃ s' tr', ARun P mb N ops (List.range' i (o :: os).length) s s' tr' ∧ K s' (tr ++ tr') := by
      intro s1 acc hs hk
      obtain ⟨s', tr', h1, h2⟩ := aops_run os (i + 1) s1 _ K hos' hk
      refine ⟨s', (i, acc) :: tr', ?_, by simpa using h2⟩
      rw [List.length_cons, List.range'_succ]
      exact .cons hs h1
    split at h
    · rename_i b hb
      split at h
      · rename_i hbt
        rw [hbt] at hb
        split at h
        · rename_i f args hc
          split at h
          · rename_i g qs b' hcall
            obtain ⟨r, h1, h2, h3⟩ := h
            exact fin _ _ ⟨o, ho, hd, .inr (.inr ⟨hb, f, args, g, qs, b', r, hc, hcall, h1, h2, rfl, rfl⟩)⟩ h3
          · exact h.elim
        · split at h
          · rename_i r hs
            split at h
            · rename_i s1 ha
              exact fin _ _ ⟨o, ho, hd, .inr (.inl ⟨hb, r, hs, ha, rfl⟩)⟩ h
            · exact h.elim
          · exact h.elim
      · rename_i hbt
        have : b = false := by simpa using hbt
        rw [this] at hb
        exact fin _ _ ⟨o, ho, hd, .inl ⟨hb, rfl, rfl⟩⟩ h
    · exact h.elim

/-- A loop, with a ghost of its own. -/
theorem wp_loop_ghost {G : Type} {c : Code} {Q : Exit → Act → World → Prop} (R : G → Act → World → Prop) (μ : G → Nat)
    (round : ∀ g a w, R g a w → c.wp P (Exit.then (fun a' w' => ∃ g', R g' a' w' ∧ μ g' < μ g) Q) a w) {g : G} {a : Act} {w : World} (h : R g a w) : (Code.loop c).wp P Q a w := by
  intro b k cs
  have key : ∀ n g a w, μ g = n → R g a w → ∃ e a' w', Q e a' w' ∧ Arrives P (lone (b.at a (.code c :: .inLoop c :: k)) cs w) b k cs e a' w' := by
    intro n
    induction n using Nat.strongRecOn with
    | _ n ih =>
      intro g a w hn hR
      obtain ⟨e, a₁, w₁, hq, harr⟩ := round g a w hR b (.inLoop c :: k) cs
      cases e with
      | normal =>
        obtain ⟨g', hR', hlt⟩ := hq
        obtain ⟨e₂, a₂, w₂, hq₂, harr₂⟩ := ih (μ g') (hn ▸ hlt) g' a₁ w₁ rfl hR'
        exact ⟨e₂, a₂, w₂, hq₂, .of_steps (Steps.trans harr (.one step_inLoop)) harr₂⟩
      | exit id => exact ⟨_, a₁, w₁, hq, .pass (x := .inLoop c) rfl (fun _ _ => .inl (by simp)) harr⟩
      | goto l => exact ⟨_, a₁, w₁, hq, .pass (x := .inLoop c) rfl (fun _ _ => .inl (by simp)) harr⟩
      | ret => exact ⟨_, a₁, w₁, hq, .pass (x := .inLoop c) rfl (fun _ _ => .inl (by simp)) harr⟩
      | panic ch => exact ⟨_, a₁, w₁, hq, .pass (x := .inLoop c) rfl (fun _ _ => .inl (by simp)) harr⟩
      | outgrown => exact ⟨_, a₁, w₁, hq, .pass (x := .inLoop c) rfl (fun _ _ => .inl (by simp)) harr⟩
  obtain ⟨e, a', w', hq, harr⟩ := key _ g a w rfl h
  exact ⟨e, a', w', hq, .of_steps (.one step_loop) harr⟩

/-- What the machine's side knows behind a piece of code. -/
def PostA (base N : Nat) (E : Env) (w : World) (Q : AExit → ASt → Prop) : Exit → Act → World → Prop := fun e a' w' =>
  ∃ x s' E', e = AExit.toExit x ∧ Q x s' ∧ Inv base E' s' a'.tmps w' ∧ a'.tmps.size = N ∧ a'.defers = [] ∧ Below base w w' ∧ ExtF base E w E' w'

theorem awp_sound (hmix : P.follows .mixedOrders = true) : ∀ (c : Code) (Q : AExit → ASt → Prop) (s : ASt), AWp P mb N c Q s → ∀ {base : Nat} {E : Env} {a : Act} {w : World}, Inv base E s a.tmps w → a.tmps.size = N → a.defers = [] →
    c.wp P (PostA base N E w Q) a w
  | .skip, Q, s, h, base, E, a, w, hI, hN, hd => wp_skip ⟨.normal, s, E, rfl, h, hI, hN, hd, Below.refl _ _, ExtF.refl _ _ _⟩
  | .exit id, Q, s, h, base, E, a, w, hI, hN, hd => wp_exit ⟨.exit id, s, E, rfl, h, hI, hN, hd, Below.refl _ _, ExtF.refl _ _ _⟩
  | .ret, Q, s, h, base, E, a, w, hI, hN, hd => wp_ret ⟨.ret, s, E, rfl, h, hI, hN, hd, Below.refl _ _, ExtF.refl _ _ _⟩
  | .region id ops draw, Q, s, h, base, E, a, w, hI, hN, hd => by
    obtain ⟨s', tr', h1, h2, h3⟩ := aops_run ops.toList 0 _ [] _ (by simp) h
    obtain ⟨E1, hI1, hE1⟩ := hI.killL (freshOf mb id)
    simp only [List.nil_append] at h2
    rw [← List.range_eq_range'] at h1
    simp only [Array.length_toList] at h1
    exact region_sound hmix h1 h2 hI1 hN (fun a' w' E' k1 k2 k3 k4 k5 => ⟨.normal, s', E', rfl, h3, k1, k2, by rw [k3]; exact hd, k4, hE1.trans k5⟩)
  | .seq x y, Q, s, h, base, E, a, w, hI, hN, hd => by
    refine wp_seq (wp_mono (awp_sound hmix x _ s h hI hN hd) ?_)
    rintro e a1 w1 ⟨z, s1, E1, rfl, hz, k1, k2, k3, k4, k5⟩
    cases z with
    | normal =>
      refine wp_mono (awp_sound hmix y Q s1 hz k1 k2 k3) ?_
      rintro e a2 w2 ⟨z, s2, E2, rfl, hz2, q1, q2, q3, q4, q5⟩
      exact ⟨z, s2, E2, rfl, hz2, q1, q2, q3, k4.trans q4, k5.trans q5⟩
    | exit id => exact ⟨.exit id, s1, E1, rfl, hz, k1, k2, k3, k4, k5⟩
    | ret => exact ⟨.ret, s1, E1, rfl, hz, k1, k2, k3, k4, k5⟩
  | .cond c x y, Q, s, h, base, E, a, w, hI, hN, hd => by
    simp only [AWp] at h
    have hc := hI.eval c
    split at h
    · rename_i t ht
      rw [ht] at hc
      have hv := rel_bool hc
      refine wp_cond hv ?_
      split at h
      · rename_i htt; rw [if_pos htt]; exact awp_sound hmix x Q s h hI hN hd
      · rename_i htt; rw [if_neg htt]; exact awp_sound hmix y Q s h hI hN hd
    · exact h.elim
  | .block id c, Q, s, h, base, E, a, w, hI, hN, hd => by
    refine wp_block (wp_mono (awp_sound hmix c _ s h hI hN hd) ?_)
    rintro e a1 w1 ⟨z, s1, E1, rfl, hz, k1, k2, k3, k4, k5⟩
    cases z with
    | normal => exact ⟨.normal, s1, E1, rfl, hz, k1, k2, k3, k4, k5⟩
    | exit i =>
      simp only [AExit.toExit, Exit.inBlock]
      simp only [blockK] at hz
      split at hz
      · rename_i hi; rw [if_pos hi]; exact ⟨.normal, s1, E1, rfl, hz, k1, k2, k3, k4, k5⟩
      · rename_i hi; rw [if_neg hi]; exact ⟨.exit i, s1, E1, rfl, hz, k1, k2, k3, k4, k5⟩
    | ret => exact ⟨.ret, s1, E1, rfl, hz, k1, k2, k3, k4, k5⟩
  | .loop c, Q, s, h, base, E, a, w, hI, hN, hd => by
    obtain ⟨I, μ, h0, hround⟩ := h
    refine wp_loop_ghost (G := ASt) (fun g a' w' => I g ∧ ∃ E', Inv base E' g a'.tmps w' ∧ a'.tmps.size = N ∧ a'.defers = [] ∧ Below base w w' ∧ ExtF base E w E' w') μ ?_ (g := s) ⟨h0, E, hI, hN, hd, Below.refl _ _, ExtF.refl _ _ _⟩
    rintro g a1 w1 ⟨hg, E1, k1, k2, k3, k4, k5⟩
    refine wp_mono (awp_sound hmix c _ g (hround g hg) k1 k2 k3) ?_
    rintro e a2 w2 ⟨z, s2, E2, rfl, hz, q1, q2, q3, q4, q5⟩
    cases z with
    | normal => exact ⟨s2, ⟨hz.1, E2, q1, q2, q3, k4.trans q4, k5.trans q5⟩, hz.2⟩
    | exit i => exact ⟨.exit i, s2, E2, rfl, hz, q1, q2, q3, k4.trans q4, k5.trans q5⟩
    | ret => exact ⟨.ret, s2, E2, rfl, hz, q1, q2, q3, k4.trans q4, k5.trans q5⟩
  | .rangeFunc _ _ _ _, Q, s, h, _, _, _, _, _, _, _ => h.elim
  | .scope _, Q, s, h, _, _, _, _, _, _, _ => h.elim
  | .label _, Q, s, h, _, _, _, _, _, _, _ => h.elim
  | .goto _, Q, s, h, _, _, _, _, _, _, _ => h.elim
  | .refuse _, Q, s, h, _, _, _, _, _, _, _ => h.elim

/-! ### a function -/
def argSt (ps : List PVal) : ASt := ⟨fun i => ps.getD i .undef, fun _ => none⟩

def resA (P : Program) (s : ASt) : ResultVar → Option PVal
  | .tmp t => closeR s.h (s.t t)
  | .cell a ty => match aggSize P ty with
    | some ag => match s.t a with
      | .bptr b off => match s.h b with
        | some cs => match ldAt ag cs off with
          | some p => closeR s.h p
          | none => none
        | none => none
      | .cptr cs => match ldAt ag cs 0 with
        | some p => closeR s.h p
        | none => none
      | _ => none
    | none => none
def resAs (P : Program) (s : ASt) : List ResultVar → Option (List PVal)
  | [] => some []
  | r :: rs => match resA P s r, resAs P s rs with
    | some p, some ps => some (p :: ps)
    | _, _ => none
def resultsA (P : Program) (rs : List ResultVar) (s : ASt) : Option PVal := match resAs P s rs with
  | some [p] => some p
  | some ps => some (.tup ps)
  | none => none

/-- What a body must come to. -/
def retK (P : Program) (rs : List ResultVar) (r : PVal) : AExit → ASt → Prop
  | .exit _, _ => False
  | _, s => resultsA P rs s = some r

theorem argSt_inv {ps : List PVal} {vs : List Value} {w : World} {Φ Ψ : Mem} (n : Nat) (h1 : ∀ a v, Φ a = some v → w.cell? a = some v) (h2 : ∀ a v, Ψ a = some v → w.cell? a = some v) (h3 : ∀ a v, Φ a = some v → Ψ a = some v) (hr : RelArgs (E0 Φ Ψ) ps vs) :
    Inv w.heap.size (E0 Φ Ψ) (argSt ps) (vs.toArray ++ Array.replicate (n - vs.toArray.size) Go.undef) w := by
  refine ⟨fun i => ?_, h1, h2, h3, fun t cs h => by simp [argSt] at h, fun t b h => by simp [E0] at h, fun t t' b h => by simp [E0] at h, fun k v e z h => by simp [E0] at h, fun k k' v v' e e' z z' g h => by simp [E0] at h, Nat.le_refl _, fun t _ => rfl⟩
  simp only [argSt]
  rcases Nat.lt_or_ge i vs.length with hi | hi
  · have e1 : (vs.toArray ++ Array.replicate (n - vs.toArray.size) Go.undef).getD i Go.undef = vs[i] := by
      rw [Array.getD_eq_getD_getElem?, Array.getElem?_append_left (by simpa using hi)]; simp [hi]
    have hi2 : i < ps.length := by rw [← hr.1]; exact hi
    rw [e1, List.getD_eq_getElem?_getD, List.getElem?_eq_getElem hi2]
    exact hr.2 i _ _ (List.getElem?_eq_getElem hi2) (List.getElem?_eq_getElem hi)
  · have e1 : (vs.toArray ++ Array.replicate (n - vs.toArray.size) Go.undef).getD i Go.undef = Go.undef := by
      rw [Array.getD_eq_getD_getElem?, Array.getElem?_append_right (by simpa using hi), Array.getElem?_replicate]
      split <;> rfl
    rw [e1, List.getD_eq_getElem?_getD, List.getElem?_eq_none (by rw [← hr.1]; exact hi)]
    exact .undef

def resOne (tm : Array Value) : ResultVar → Sem Value
  | .tmp t => pure (tm.getD t Go.undef)
  | .cell a t => do loadVar t (← asAddr (tm.getD a Go.undef))
theorem results_eq (fn : Func) (tm : Array Value) : results fn tm = (do let vs ← fn.results.mapM (resOne tm); pure (if h : vs.size = 1 then vs[0] else .tuple vs)) := by
  unfold results
  congr 1

theorem resA_sound {base : Nat} {E : Env} {s : ASt} {tm : Array Value} {w : World} (hI : Inv base E s tm w) {Φ' Ψ' : Mem} (hΦ : ∀ a v, boxMem E w s.h E.Φ a = some v → Φ' a = some v) (hΨ : ∀ a v, boxMem E w s.h E.Ψ a = some v → Ψ' a = some v) :
    ∀ (r : ResultVar) (q : PVal), resA P s r = some q → ∃ v, (resOne tm r).run P w = .ok v w ∧ RelP (E0 Φ' Ψ') q v := by
  intro r q h
  cases r with
  | tmp t => exact ⟨_, rfl, closeR_rel hI hΦ hΨ (hI.tm t) h⟩
  | cell a ty =>
    simp only [resA] at h
    have ha := hI.tm a
    split at h
    · rename_i ag hag
      split at h
      · rename_i b off hb
        rw [hb] at ha
        split at h
        · rename_i cs hcs
          split at h
          · rename_i p hld
            generalize hv : tm.getD a Go.undef = v at ha
            cases ha with
            | bptr _ _ b' hbb =>
              obtain ⟨b2, c, e, k1, k2, k3, k4, k5⟩ := hI.box b cs hcs
              rw [hbb] at k1; injection k1 with k1; subst k1
              obtain ⟨u, hu, hru⟩ := load_rel (P := P) (E := E) (w := w) hag hld ⟨b', off, none⟩ (fun i => c.getD i Go.undef) (fun i hi => by
                  rw [addr_mk_add, cell_of_row w b' _ c e (0, 0) k2, Array.getElem?_eq_getElem (by omega)]
                  simp [show off + i < c.size by omega]) k4 (fun i hi => by
                  have := (k5 i cs[i] (c[i]'(by omega)) (List.getElem?_eq_getElem hi) (Array.getElem?_eq_getElem (by omega))).2
                  simpa [show i < c.size by omega] using this) (fun i p hp => by
                  have hi := (List.getElem?_eq_some_iff.1 hp).1
                  have := (k5 i p (c[i]'(by omega)) hp (Array.getElem?_eq_getElem (by omega))).1
                  simpa [show i < c.size by omega] using this)
              refine ⟨u, ?_, closeR_rel hI hΦ hΨ hru h⟩
              simp only [resOne]
              rw [hv]
              simp [asAddr, hu]
          · cases h
        · cases h
      · rename_i cs hcs
        rw [hcs] at ha
        split at h
        · rename_i p hld
          generalize hv : tm.getD a Go.undef = v at ha
          cases ha with
          | cptr cs ad vals hΨc hf h1 hr =>
            obtain ⟨u, hu, hru⟩ := load_rel (P := P) (E := E) (w := w) hag hld ad vals (fun i hi => by simpa using hI.psi _ _ (hΨc i (by omega))) hf h1 hr
            refine ⟨u, ?_, closeR_rel hI hΦ hΨ hru h⟩
            simp only [resOne]
            rw [hv]
            simp [asAddr, hu]
        · cases h
      · cases h
    · cases h

theorem resAs_sound {base : Nat} {E : Env} {s : ASt} {tm : Array Value} {w : World} (hI : Inv base E s tm w) {Φ' Ψ' : Mem} (hΦ : ∀ a v, boxMem E w s.h E.Φ a = some v → Φ' a = some v) (hΨ : ∀ a v, boxMem E w s.h E.Ψ a = some v → Ψ' a = some v) :
    ∀ (rs : List ResultVar) (qs : List PVal), resAs P s rs = some qs → ∃ vs, (rs.mapM (resOne tm) : Sem (List Value)).run P w = .ok vs w ∧ RelArgs (E0 Φ' Ψ') qs vs
  | [], qs, h => by simp [resAs] at h; subst h; exact ⟨[], by simp, rfl, by simp⟩
  | r :: rs, qs, h => by
    simp only [resAs] at h
    split at h
    · rename_i p ps h1 h2
      injection h with h; subst h
      obtain ⟨v, g1, g2⟩ := resA_sound hI hΦ hΨ r p h1
      obtain ⟨vs, k1, k2, k3⟩ := resAs_sound hI hΦ hΨ rs ps h2
      refine ⟨v :: vs, ?_, by simp [k2], fun i q u hq hu => ?_⟩
      · simp only [List.mapM_cons, Sem.run_bind, g1, k1, Result.andThen_ok, Sem.run_pure]
      · cases i with
        | zero => simp at hq hu; subst hq hu; exact g2
        | succ i => simp at hq hu; exact k3 i q u hq hu
    · cases h

/-- A function's contract out of its code. -/
theorem rcall_of (hmix : P.follows .mixedOrders = true) {f : Nat} {fn : Func} {c : Code} {ps : List PVal} {r : PVal} (mb : List Nat) (hf : P.funcs[f]? = some fn) (hname : (fn.name == "runtime.NumGoroutine") = false) (hb : fn.body = some c)
    (hn : ps.length ≤ fn.ntmps) (h : AWp P mb fn.ntmps c (retK P fn.results.toList r) (argSt ps)) : RCall P f ps r := by
  refine ⟨fun args w => ?_, fun Φ Ψ vs w h1 h2 h3 hr => ?_⟩
  · have h1 : fn.name ≠ "runtime.NumGoroutine" := by simpa using hname
    simp [callFunc, hf, h1, hb]
  · refine calls_of_wp hf hb (wp_mono (awp_sound hmix c _ _ h (argSt_inv fn.ntmps h1 h2 h3 hr) (by simp; have := hr.1; omega) rfl) ?_)
    rintro e a' w' ⟨x, s', E', rfl, hx, hI, hN, hd, hB, hE⟩
    have fin : resultsA P fn.results.toList s' = some r → a'.defers = [] ∧ ∃ v, (results fn a'.tmps).run P w' = .ok v w' ∧ ∃ v' Φ' Ψ', Ending.returned v = .returned v' ∧ Below w.heap.size w w' ∧ (∀ a v, Φ a = some v → Φ' a = some v) ∧ (∀ a v, Ψ a = some v → Ψ' a = some v) ∧ (∀ a v, Φ' a = some v → Ψ' a = some v) ∧
        (∀ a v, Ψ' a = some v → w'.cell? a = some v) ∧ (∀ a v, Φ' a = some v → Φ a = some v ∨ w.heap.size ≤ a.block) ∧ (∀ a v, Ψ' a = some v → Ψ a = some v ∨ w.heap.size ≤ a.block) ∧ RelP (E0 Φ' Ψ') r v' := by
      intro hres
      have hboxnew : ∀ (f : Mem) (a : Addr) (v : Value), boxMem E' w' s'.h f a = some v → f a = some v ∨ w.heap.size ≤ a.block := by
        intro f a v ha
        unfold boxMem at ha
        split at ha
        · rename_i hc
          obtain ⟨t, cs, _, hβ⟩ := hc
          exact .inr (hI.bsep t _ hβ).1
        · exact .inl ha
      have common : ∀ {q : PVal} {v : Value}, RelP (E0 (boxMem E' w' s'.h E'.Φ) (boxMem E' w' s'.h E'.Ψ)) q v → (∃ v' Φ' Ψ', Ending.returned v = .returned v' ∧ Below w.heap.size w w' ∧ (∀ a v, Φ a = some v → Φ' a = some v) ∧ (∀ a v, Ψ a = some v → Ψ' a = some v) ∧ (∀ a v, Φ' a = some v → Ψ' a = some v) ∧
          (∀ a v, Ψ' a = some v → w'.cell? a = some v) ∧ (∀ a v, Φ' a = some v → Φ a = some v ∨ w.heap.size ≤ a.block) ∧ (∀ a v, Ψ' a = some v → Ψ a = some v ∨ w.heap.size ≤ a.block) ∧ RelP (E0 Φ' Ψ') q v') := by
        intro q v hq
        refine ⟨v, boxMem E' w' s'.h E'.Φ, boxMem E' w' s'.h E'.Ψ, rfl, hB, fun a v ha => boxMem_le hI hI.sub a v (hE.phi a v ha), fun a v ha => boxMem_le hI (fun _ _ h => h) a v (hE.psi a v ha), fun a v ha => ?_, boxMem_sound hI.psi, fun a v ha => ?_, fun a v ha => ?_, hq⟩
        · unfold boxMem at ha ⊢
          split at ha
          · rename_i hc; rw [if_pos hc]; exact ha
          · rename_i hc; rw [if_neg hc]; exact hI.sub a v ha
        · rcases hboxnew _ a v ha with h | h
          · exact hE.newp a v h
          · exact .inr h
        · rcases hboxnew _ a v ha with h | h
          · exact hE.new a v h
          · exact .inr h
      refine ⟨hd, ?_⟩
      unfold resultsA at hres
      have hm : ∀ vs : List Value, (fn.results.toList.mapM (resOne a'.tmps) : Sem (List Value)).run P w' = .ok vs w' →
          (results fn a'.tmps).run P w' = .ok (if h : vs.toArray.size = 1 then vs.toArray[0] else .tuple vs.toArray) w' := by
        intro vs hvs
        rw [results_eq, Sem.run_bind, Array.mapM_eq_mapM_toList]
        simp only [Sem.run_map]
        rw [hvs]
        rfl
      split at hres
      · rename_i p hrs
        injection hres with hres; subst hres
        obtain ⟨us, g1, g2, g3⟩ := resAs_sound (P := P) hI (fun _ _ h => h) (fun _ _ h => h) _ _ hrs
        obtain ⟨u, rfl⟩ : ∃ u, us = [u] := by
          cases us with
          | nil => simp at g2
          | cons u t => cases t with
            | nil => exact ⟨u, rfl⟩
            | cons _ _ => simp at g2
        refine ⟨u, ?_, common (g3 0 p u rfl rfl)⟩
        have := hm [u] g1
        simpa using this
      · rename_i qs hne hrs
        injection hres with hres; subst hres
        obtain ⟨us, g1, g2, g3⟩ := resAs_sound (P := P) hI (fun _ _ h => h) (fun _ _ h => h) _ _ hrs
        have hl : us.toArray.size ≠ 1 := by
          intro h1
          have : qs.length = 1 := by rw [← g2]; simpa using h1
          obtain ⟨p, hp⟩ := List.length_eq_one_iff.1 this
          exact hne p (by rw [hp])
        refine ⟨.tuple us.toArray, ?_, common (.tup qs us g2 g3)⟩
        have := hm us g1
        rw [dif_neg hl] at this
        exact this
      · cases hres
    cases x with
    | normal => exact fin hx
    | ret => exact fin hx
    | exit id => exact hx.elim
end
end Go.Abs
