/- The interpreter LI: a deterministic reading of the model's Code over values and a small heap of its own. -/
import Derived.WalkKit
import Derived.Deep.Quiet
import Derived.StillTail
import Derived.Lib.Bytealg
namespace Go.LI
open Go

/-- An address of the shared heap. -/
structure GA where
  b : Nat
  o : Nat
  deriving DecidableEq
def GA.add (a : GA) (n : Nat) : GA := ⟨a.b, a.o + n⟩

inductive IV where
  | bool (b : Bool)
  | int (k : IntKind) (n : Int)
  | float (k : FloatKind) (b : Nat)
  | str (s : List UInt8)
  | ptr (a : Option GA)
  | loc (k o : Nat)
  | slice (a : Option GA) (n : Nat)
  | func (f : Nat) (caps : List IV)
  | nilFunc
  | nilIface
  | iface (t : Nat) (v : IV)
  | agg (cs : List IV)
  | tuple (vs : List IV)
  | fo (k : FloatKind) (b : Option Nat)
  | any
  deriving Inhabited

def undefI : IV := .tuple []

def ofValue0 : Value → Option IV
  | .bool b => some (.bool b)
  | .int k n => some (.int k n)
  | .float k b => some (.float k b)
  | .string s => some (.str s.data.toList)
  | .pointer none => some (.ptr none)
  | .slice none 0 0 => some (.slice none 0)
  | .nilFunc => some .nilFunc
  | .nilIface => some .nilIface
  | _ => none

def ofList0 : List Value → Option (List IV)
  | [] => some []
  | v :: vs => match ofValue0 v, ofList0 vs with
    | some x, some xs => some (x :: xs)
    | _, _ => none

def ofValue : Value → Option IV
  | .agg cs => match ofList0 cs.toList with
    | some xs => some (.agg xs)
    | none => none
  | v => ofValue0 v

def IV.cells : IV → List IV
  | .agg cs => cs
  | v => [v]

mutual
def noLoc : IV → Bool
  | .loc _ _ => false
  | .func _ cs => noLocs cs
  | .iface _ v => noLoc v
  | .agg cs => noLocs cs
  | .tuple vs => noLocs vs
  | _ => true
def noLocs : List IV → Bool
  | [] => true
  | v :: vs => noLoc v && noLocs vs
end

/-- A value of one cell. -/
def cellI : IV → Bool
  | .agg _ | .tuple _ => false
  | _ => true
def cellsI : List IV → Bool
  | [] => true
  | v :: vs => cellI v && cellsI vs

mutual
/-- No address anywhere. -/
def isFlat : IV → Bool
  | .loc _ _ => false
  | .ptr a => a.isNone
  | .slice a n => a.isNone && n == 0
  | .func _ cs => isFlats cs
  | .iface _ v => isFlat v
  | .agg cs => isFlats cs
  | .tuple vs => isFlats vs
  | .fo _ _ => false
  | _ => true
def isFlats : List IV → Bool
  | [] => true
  | v :: vs => isFlat v && isFlats vs
end

/-! ### The shared heap -/
structure Blk where
  cells : List IV
  elem : Nat
  mode : Nat      -- 0: read alone; 1: written too; else: gone
  deriving Inhabited
abbrev GH := List Blk

def gld (G : GH) (a : GA) : Option IV :=
  match G[a.b]? with
  | some k => if k.mode ≤ 1 then k.cells[a.o]? else none
  | none => none
def ldInt (G : GH) (kd : IntKind) (a : GA) : Option Int :=
  match gld G a with
  | some (.int k n) => if k = kd then some n else none
  | _ => none
def ldFloat (G : GH) (kd : FloatKind) (a : GA) : Option Nat :=
  match gld G a with
  | some (.float k n) => if k = kd then some n else none
  | _ => none
def ldBool (G : GH) (a : GA) : Option Bool :=
  match gld G a with
  | some (.bool b) => some b
  | _ => none
def ldStr (G : GH) (a : GA) : Option (List UInt8) :=
  match gld G a with
  | some (.str b) => some b
  | _ => none
def ldPtr (G : GH) (a : GA) : Option (Option GA) :=
  match gld G a with
  | some (.ptr b) => some b
  | _ => none
def ldSlice (G : GH) (a : GA) : Option (Option GA × Nat) :=
  match gld G a with
  | some (.slice b n) => some (b, n)
  | _ => none

def splice (cs : List IV) (o : Nat) (vs : List IV) : List IV := cs.take o ++ vs ++ cs.drop (o + vs.length)
/-- Cells are written, in a block that may be written. -/
def gst (G : GH) (a : GA) (vs : List IV) : Option GH :=
  match G[a.b]? with
  | some k => if k.mode = 1 ∧ a.o + vs.length ≤ k.cells.length then some (G.set a.b { k with cells := splice k.cells a.o vs }) else none
  | none => none
/-- Cells are read. -/
def grd (G : GH) (a : GA) (n : Nat) : Option (List IV) :=
  match G[a.b]? with
  | some k => if k.mode ≤ 1 ∧ a.o + n ≤ k.cells.length then some ((k.cells.drop a.o).take n) else none
  | none => none
def gnew (G : GH) (cells : List IV) (elem : Nat) : GH := G ++ [⟨cells, elem, 1⟩]
def gaddr (G : GH) : GA := ⟨G.length, 0⟩
/-- A block is gone: who reads it fails. -/
def gkill (G : GH) (b : Nat) : GH :=
  match G[b]? with
  | some k => G.set b { k with mode := 2 }
  | none => G
/-- May this block be taken over by an append? -/
def gown (G : GH) (b elem : Nat) : Bool :=
  match G[b]? with
  | some k => decide (k.mode = 1) && (k.elem == elem)
  | none => false
/-- Does a slice lie in a block of these elements? -/
def gcut (G : GH) (a : Option GA) (elem : Nat) : Bool :=
  match a with
  | none => true
  | some a => match G[a.b]? with
    | some k => decide (k.mode ≤ 1) && (k.elem == elem)
    | none => false
def gfreeze (G : GH) : GH := G.map fun k => { k with mode := if k.mode ≤ 1 then 0 else 2 }

def bytesI (s : List UInt8) : List IV := s.map fun b => .int .u8 b.toNat
def asBytes : List IV → Option (List UInt8)
  | [] => some []
  | .int .u8 n :: r => match asBytes r with
    | some l => some (UInt8.ofNat n.toNat :: l)
    | none => none
  | _ => none

/-- The most bytes that a list may come to here. -/
def roomI : Nat := 2 ^ 40
/-- The most bytes that a text may come to here. -/
def roomS : Nat := 2 ^ 62

/-- append: what was there and what comes on, in a new block; the old one is gone. -/
def gappend (G : GH) (elem size bytes : Nat) (a : Option GA) (n : Nat) (x : List IV) (m : Nat) : Option (Option GA × GH) :=
  if (n + m) * bytes ≤ roomI then
    match a with
    | none => if n = 0 then (if m = 0 then some (none, G) else some (some (gaddr G), gnew G x elem)) else none
    | some a => match gown G a.b elem, grd G a (n * size) with
      | true, some old => some (some (gaddr G), gnew (gkill G a.b) (old ++ x) elem)
      | _, _ => none
  else none

/-! ### Types -/
inductive Leaf where
  | int (k : IntKind) | float (k : FloatKind) | bool | str | ptr | slice | raw
def leaves (P : Program) : Nat → TypeId → List Leaf
  | 0, _ => []
  | d + 1, t => match P.underlying t with
    | some (.int k) => [.int k]
    | some (.float k) => [.float k]
    | some .bool => [.bool]
    | some .string => [.str]
    | some (.pointer _) => [.ptr]
    | some (.slice _) => [.slice]
    | some (.struct fs) => fs.toList.flatMap fun f => leaves P d f.type
    | some (.array n e) => (List.replicate n (leaves P d e)).flatten
    | some _ => [.raw]
    | none => []
def aggT (P : Program) (t : TypeId) : Bool :=
  match P.underlying t with
  | some (.struct _) | some (.array _ _) => true
  | _ => false
def fieldsT (P : Program) (t : TypeId) : Array Field :=
  match P.underlying t with
  | some (.struct fs) => fs
  | _ => #[]
/-- A part of a row of cells. -/
def partI (P : Program) (t : TypeId) (cs : List IV) (off : Nat) : Option IV :=
  match P.underlying t with
  | some _ => if aggT P t then (if off + P.cellsOf t ≤ cs.length then some (.agg ((cs.drop off).take (P.cellsOf t))) else none) else cs[off]?
  | none => none
def zeroT (P : Program) (t : TypeId) : Option IV :=
  match P.info? t with
  | some i => match i.zero with
    | some v => ofValue v
    | none => none
  | none => none

section
variable {R : Type}

def ldLeaf (G : GH) (a : GA) : Leaf → (IV → Option R) → Option R
  | .int kd, k => match ldInt G kd a with | some n => k (.int kd n) | none => none
  | .float kd, k => match ldFloat G kd a with | some n => k (.float kd n) | none => none
  | .bool, k => match ldBool G a with | some n => k (.bool n) | none => none
  | .str, k => match ldStr G a with | some n => k (.str n) | none => none
  | .ptr, k => match ldPtr G a with | some n => k (.ptr n) | none => none
  | .slice, k => match ldSlice G a with | some n => k (.slice n.1 n.2) | none => none
  | .raw, k => match gld G a with | some v => k v | none => none
def ldCells (G : GH) (a : GA) : List Leaf → Nat → (List IV → Option R) → Option R
  | [], _, k => k []
  | l :: ls, i, k => ldLeaf G (a.add i) l fun v => ldCells G a ls (i + 1) fun vs => k (v :: vs)

/-- A variable is loaded. -/
def loadC (P : Program) (t : TypeId) (x : IV) (F : List (List IV)) (G : GH) (k : IV → Option R) : Option R :=
  match x with
  | .ptr (some a) =>
    if aggT P t then (if (leaves P 20 t).length = P.cellsOf t then ldCells G a (leaves P 20 t) 0 fun vs => k (.agg vs) else none)
    else match leaves P 20 t with
      | [l] => ldLeaf G a l k
      | _ => none
  | .loc b o => match F[b]? with
    | some cs => match partI P t cs o with
      | some v => k v
      | none => none
    | none => none
  | _ => none

def storeC (P : Program) (t : TypeId) (x v : IV) (F : List (List IV)) (G : GH) (k : List (List IV) → GH → Option R) : Option R :=
  if v.cells.length = P.cellsOf t ∧ cellsI v.cells = true ∧ P.cellsOf t ≠ 0 then
    match x with
    | .ptr (some a) => if noLocs v.cells then (match gst G a v.cells with | some G' => k F G' | none => none) else none
    | .loc b o => match F[b]? with
      | some cs => if o + v.cells.length ≤ cs.length then k (F.set b (splice cs o v.cells)) G else none
      | none => none
    | _ => none
  else none

/-! ### Operations on values -/
def shlI (k : IntKind) (x y : Int) : Int := k.wrap (x * 2 ^ (min y.toNat k.bits))
def shrI (k : IntKind) (x y : Int) : Int := x.fdiv (2 ^ (min y.toNat k.bits))
def andI (k : IntKind) (x y : Int) : Int := k.wrap (BitVec.ofInt k.bits x &&& BitVec.ofInt k.bits y).toNat
def orI (k : IntKind) (x y : Int) : Int := k.wrap (BitVec.ofInt k.bits x ||| BitVec.ofInt k.bits y).toNat
def xorI (k : IntKind) (x y : Int) : Int := k.wrap (BitVec.ofInt k.bits x ^^^ BitVec.ofInt k.bits y).toNat
def notI (k : IntKind) (x y : Int) : Int := k.wrap (BitVec.ofInt k.bits x &&& ~~~ BitVec.ofInt k.bits y).toNat
def feq (k : FloatKind) (x y : Nat) : Bool := k.format.order x y == some .eq
def flt (k : FloatKind) (x y : Nat) : Bool := k.format.order x y == some .lt
def fgt (k : FloatKind) (x y : Nat) : Bool := k.format.order x y == some .gt
def fle (k : FloatKind) (x y : Nat) : Bool := k.format.order x y == some .lt || k.format.order x y == some .eq
def fge (k : FloatKind) (x y : Nat) : Bool := k.format.order x y == some .gt || k.format.order x y == some .eq
def f2i (s : FloatKind) (b : Nat) (d : IntKind) : Option Int :=
  match (s.decode b).toInt .zero with
  | some n => if d.min ≤ n ∧ n ≤ d.max then some n else none
  | none => none
def f2f (s : FloatKind) (b : Nat) (d : FloatKind) : Option Nat :=
  if s = d then some b else
  match s.decode b with
  | .nan _ _ => none
  | .infinity g => some (d.encode (.infinity g))
  | .number g m e => if (d.decode (d.encode (.number g m e))).isInfinity then none else some (d.encode (.number g m e))
def fmax (k : FloatKind) (x y : Nat) : Option Nat :=
  match k.format.order x y with
  | none => none
  | some .lt => some y
  | some .gt => some x
  | some .eq => some (if (k.decode x).neg then y else x)
def fmin (k : FloatKind) (x y : Nat) : Option Nat :=
  match k.format.order x y with
  | none => none
  | some .lt => some x
  | some .gt => some y
  | some .eq => some (if (k.decode x).neg then x else y)

/-- Two values of one cell: are they equal? -/
def eqLeaf : Leaf → IV → IV → Option Bool
  | .bool, .bool a, .bool b => some (a == b)
  | .int q, .int k a, .int k' b => if k = q ∧ k' = q then some (a == b) else none
  | .float q, .float k a, .float k' b => if k = q ∧ k' = q then some (feq q a b) else none
  | .str, .str a, .str b => some (a == b)
  | _, _, _ => none
def eqLeaves : List Leaf → List IV → List IV → Option Bool
  | [], [], [] => some true
  | l :: ls, x :: xs, y :: ys => match eqLeaf l x y, eqLeaves ls xs ys with
    | some a, some b => some (a && b)
    | _, _ => none
  | _, _, _ => none
def plainFields (P : Program) (ps : TypeId → Option Nat) : List Field → Nat → Option Nat
  | [], off => some off
  | f :: fs, off => match ps f.type with
    | some s => if f.name ≠ "_" ∧ f.offset = off ∧ P.cellsOf f.type = s then plainFields P ps fs (off + s) else none
    | none => none
/-- May values of this type be told apart leaf by leaf? How many cells they have. -/
def plainSize (P : Program) : Nat → TypeId → Option Nat
  | 0, _ => none
  | d + 1, t => match P.underlying t with
    | some (.int _) | some (.float _) | some .bool | some .string => some 1
    | some (.struct fs) => if P.stoodInHeld t then none else plainFields P (plainSize P d) fs.toList 0
    | some (.array n e) => match plainSize P d e with
      | some s => if P.cellsOf e = s then some (n * s) else none
      | none => none
    | _ => none

def binC (P : Program) (op : BinOp) (t : TypeId) (x y : IV) (k : IV → Option R) : Option R :=
  match x, y with
  | .int kx a, .int ky b =>
    match op with
    | .shl => cond (decide (b < 0)) none (k (.int kx (shlI kx a b)))
    | .shr => cond (decide (b < 0)) none (k (.int kx (shrI kx a b)))
    | _ => if kx = ky then
      match op with
      | .add => k (.int kx (kx.wrap (a + b)))
      | .sub => k (.int kx (kx.wrap (a - b)))
      | .mul => k (.int kx (kx.wrap (a * b)))
      | .quo => cond (b == 0) none (k (.int kx (kx.wrap (a.tdiv b))))
      | .rem => cond (b == 0) none (k (.int kx (a.tmod b)))
      | .and => k (.int kx (andI kx a b))
      | .or => k (.int kx (orI kx a b))
      | .xor => k (.int kx (xorI kx a b))
      | .andNot => k (.int kx (notI kx a b))
      | .eql => k (.bool (a == b))
      | .neq => k (.bool (a != b))
      | .lss => k (.bool (decide (a < b)))
      | .leq => k (.bool (decide (a ≤ b)))
      | .gtr => k (.bool (decide (a > b)))
      | .geq => k (.bool (decide (a ≥ b)))
      | _ => none
      else none
  | .float kx a, .float ky b => if kx = ky then
      match op with
      | .add => match kx.format.add a b with | some r => k (.float kx r) | none => none
      | .sub => match kx.format.sub a b with | some r => k (.float kx r) | none => none
      | .mul => match kx.format.mul a b with | some r => k (.float kx r) | none => none
      | .quo => match kx.format.div a b with | some r => k (.float kx r) | none => none
      | .eql => k (.bool (feq kx a b))
      | .neq => k (.bool (!feq kx a b))
      | .lss => k (.bool (flt kx a b))
      | .leq => k (.bool (fle kx a b))
      | .gtr => k (.bool (fgt kx a b))
      | .geq => k (.bool (fge kx a b))
      | _ => none
      else none
  | .str a, .str b =>
    match op with
    | .add => cond (decide (a.length + b.length ≤ roomS)) (k (.str (a ++ b))) none
    | .eql => k (.bool (a == b))
    | .neq => k (.bool (!(a == b)))
    | .lss => k (.bool (Op.bytesLess a b))
    | .leq => k (.bool (Op.bytesLess a b || a == b))
    | .gtr => k (.bool (!(Op.bytesLess a b || a == b)))
    | .geq => k (.bool (!(Op.bytesLess a b)))
    | _ => none
  | .bool a, .bool b =>
    match op, P.underlying t with
    | .eql, some .bool => k (.bool (a == b))
    | .neq, some .bool => k (.bool (!(a == b)))
    | _, _ => none
  | .ptr a, .ptr none =>
    match op, P.underlying t with
    | .eql, some (.pointer _) => k (.bool a.isNone)
    | .neq, some (.pointer _) => k (.bool (!a.isNone))
    | _, _ => none
  | .ptr none, .ptr b =>
    match op, P.underlying t with
    | .eql, some (.pointer _) => k (.bool b.isNone)
    | .neq, some (.pointer _) => k (.bool (!b.isNone))
    | _, _ => none
  | .slice a _, .slice none _ =>
    match op, P.underlying t with
    | .eql, some (.slice _) => k (.bool a.isNone)
    | .neq, some (.slice _) => k (.bool (!a.isNone))
    | _, _ => none
  | .agg xs, .agg ys =>
    if aggT P t && (plainSize P 20 t).isSome && !P.eqGuardType P.depth t then
      match op, eqLeaves (leaves P 20 t) xs ys with
      | .eql, some b => k (.bool b)
      | .neq, some b => k (.bool (!b))
      | _, _ => none
    else none
  | _, _ => none

def unC (op : UnOp) (x : IV) (k : IV → Option R) : Option R :=
  match op, x with
  | .neg, .int kd n => k (.int kd (kd.wrap (0 - n)))
  | .xor, .int kd n => k (.int kd (xorI kd (if kd.signed then -1 else kd.max) n))
  | .neg, .float kd b => k (.float kd (Op.negFloat kd b))
  | .not, .bool b => k (.bool (!b))
  | _, _ => none

def convC (P : Program) (src dst : TypeId) (x : IV) (G : GH) (k : IV → GH → Option R) : Option R :=
  match P.underlying src, P.underlying dst, x with
  | some _, some (.int kd), .int _ n => k (.int kd (kd.wrap n)) G
  | some _, some (.float kd), .int _ n => k (.float kd (kd.nearest n)) G
  | some _, some (.int kd), .float s b => match f2i s b kd with | some n => k (.int kd n) G | none => none
  | some _, some (.float kd), .float s b => match f2f s b kd with | some n => k (.float kd n) G | none => none
  | some .string, some .string, .str s => k (.str s) G
  | some .string, some (.slice e), .str s =>
    match P.underlying e with
    | some (.int .u8) => if P.cellsOf e = 1 then k (.slice (some (gaddr G)) s.length) (gnew G (bytesI s) e) else none
    | _ => none
  | some (.slice e), some .string, .slice a n =>
    match P.underlying e, a with
    | some (.int .u8), none => if n = 0 then k (.str []) G else none
    | some (.int .u8), some a => match grd G a n with
      | some cs => match asBytes cs with
        | some l => k (.str l) G
        | none => none
      | none => none
    | _, _ => none
  | _, _, _ => none

def fillI (place : Nat → Option (Nat × Nat)) (cells : List IV) : List (Nat × IV) → Option (List IV)
  | [] => some cells
  | (i, v) :: rest => match place i with
    | none => none
    | some (off, size) => if v.cells.length ≠ size ∨ cells.length < off + v.cells.length then none else fillI place (splice cells off v.cells) rest

/-- What stands in a temporary, if it is known. -/
def tmpv (env : List IV) (t : Nat) : Option IV :=
  match env[t]? with
  | some .any => none
  | x => x
def ev (env : List IV) : Operand → Option IV
  | .tmp t => tmpv env t
  | .const v => ofValue v
  | .global _ => none
  | .func f => some (.func f [])
def evs (env : List IV) : List Operand → Option (List IV)
  | [] => some []
  | x :: xs => match ev env x, evs env xs with
    | some v, some vs => some (v :: vs)
    | _, _ => none
def evParts (env : List IV) : List (Nat × Operand) → Option (List (Nat × IV))
  | [] => some []
  | (i, x) :: xs => match ev env x, evParts env xs with
    | some v, some vs => some ((i, v) :: vs)
    | _, _ => none

/-- A function in which a difference may be no number (a mark in its list of locals). -/
def soft (lo : List Nat) : Bool := lo.contains 888888
def softB (op : BinOp) (x y : IV) : Option IV :=
  match op, x, y with
  | .sub, .float k a, .float k' b => if k = k' then some (.fo k (k.format.sub a b)) else none
  | .eql, .fo k o, .float k' b => if k = k' then some (.bool (match o with | some r => feq k r b | none => false)) else none
  | _, _, _ => none

def intI (x : Option IV) : Option Int :=
  match x with
  | some (.int _ n) => some n
  | _ => none
def loI (env : List IV) (lo : Option Operand) : Option Int :=
  match lo with
  | some l => intI (ev env l)
  | none => some 0
def hiI (env : List IV) (hi : Option Operand) (x : IV) : Option Int :=
  match hi with
  | some h => intI (ev env h)
  | none => match x with
    | .str s => some (s.length : Int)
    | .slice _ n => some (n : Int)
    | _ => none

/-- An address is 'a' places on. -/
def addrI (x : IV) (n : Nat) : Option IV :=
  match x with
  | .ptr (some a) => some (.ptr (some (a.add n)))
  | .loc b o => some (.loc b (o + n))
  | _ => none

def idx? (a : Option GA) (n : Nat) (i : Int) (size : Nat) : Option GA :=
  match a with
  | some a => if 0 ≤ i ∧ i < (n : Int) then some (a.add (i.toNat * size)) else none
  | none => none

def cutA (a : Option GA) (n : Nat) : Option GA :=
  match a with
  | some a => some (a.add n)
  | none => none

def minmaxC (mx : Bool) : List IV → IV → (IV → Option R) → Option R
  | [], x, k => k x
  | y :: ys, x, k => match x, y with
    | .int kx a, .int _ b => minmaxC mx ys (.int kx (if mx then (if b > a then b else a) else (if b < a then b else a))) k
    | .float kx a, .float _ b => match (if mx then fmax kx a b else fmin kx a b) with
      | some r => minmaxC mx ys (.float kx r) k
      | none => none
    | _, _ => none

/-! ### What comes back from a call, in its type's form -/
def ivInt (kd : IntKind) : IV → Option Int
  | .int k n => bif k == kd then some n else none
  | _ => none
def ivFloat (kd : FloatKind) : IV → Option Nat
  | .float k n => bif k == kd then some n else none
  | _ => none
def ivBool : IV → Option Bool
  | .bool b => some b
  | _ => none
def ivStr : IV → Option (List UInt8)
  | .str s => some s
  | _ => none
def ivPtr : IV → Option (Option GA)
  | .ptr a => some a
  | _ => none
def ivSlice : IV → Option (Option GA × Nat)
  | .slice a n => some (a, n)
  | _ => none
def ivAgg (n : Nat) : IV → Option (List IV)
  | .agg cs => bif cs.length == n then some cs else none
  | _ => none
def ivTup (n : Nat) : IV → Option (List IV)
  | .tuple cs => bif cs.length == n then some cs else none
  | _ => none
def castL : Leaf → IV → (IV → Option R) → Option R
  | .int kd, v, k => match ivInt kd v with | some n => k (.int kd n) | none => none
  | .float kd, v, k => match ivFloat kd v with | some n => k (.float kd n) | none => none
  | .bool, v, k => match ivBool v with | some n => k (.bool n) | none => none
  | .str, v, k => match ivStr v with | some n => k (.str n) | none => none
  | .ptr, v, k => match ivPtr v with | some n => k (.ptr n) | none => none
  | .slice, v, k => match ivSlice v with | some n => k (.slice n.1 n.2) | none => none
  | .raw, v, k => k v
def castCells : List Leaf → List IV → Nat → (List IV → Option R) → Option R
  | [], _, _, k => k []
  | l :: ls, cs, i, k => castL l (cs.getD i undefI) fun v => castCells ls cs (i + 1) fun vs => k (v :: vs)
def cast1 (P : Program) (t : TypeId) (v : IV) (k : IV → Option R) : Option R :=
  if aggT P t then
    (if (leaves P 20 t).length = P.cellsOf t then (match ivAgg (P.cellsOf t) v with
      | some cs => castCells (leaves P 20 t) cs 0 fun cs => k (.agg cs)
      | none => none) else none)
  else match leaves P 20 t with
    | [l] => castL l v k
    | _ => k v
def castTs (P : Program) : List TypeId → List IV → Nat → (List IV → Option R) → Option R
  | [], _, _, k => k []
  | t :: ts, cs, i, k => cast1 P t (cs.getD i undefI) fun v => castTs P ts cs (i + 1) fun vs => k (v :: vs)
def castT (P : Program) (t : TypeId) (v : IV) (k : IV → Option R) : Option R :=
  match P.underlying t with
  | some (.tuple ts) => match ivTup ts.toList.length v with
    | some cs => castTs P ts.toList cs 0 fun cs => k (.tuple cs)
    | none => none
  | _ => cast1 P t v k

abbrev Ora (R : Type) := Nat → List IV → GH → (IV → GH → Option R) → Option R

def builtinC (P : Program) (b : Builtin) (argTypes : Array TypeId) (args : List IV) (G : GH) (k : IV → GH → Option R) : Option R :=
  match b with
  | .len => match argTypes[0]?, args with
    | some t, [x] => match P.underlying t, x with
      | some .string, .str s => k (.int .i64 s.length) G
      | some (.slice _), .slice _ n => k (.int .i64 n) G
      | some (.array n _), _ => k (.int .i64 n) G
      | _, _ => none
    | _, _ => none
  | .max => match args with | x :: xs => minmaxC true xs x fun v => k v G | [] => none
  | .min => match args with | x :: xs => minmaxC false xs x fun v => k v G | [] => none
  | .append => match argTypes.toList, args with
    | [t, u], [.slice a n, x] => match P.underlying t with
      | some (.slice e) => match P.info? e, zeroT P e with
        | some i, some z => if ¬ (0 < i.bytes ∧ i.bytes ≤ 2 ^ 20 ∧ 0 < i.size ∧ z.cells.length = i.size) then none else match x, P.underlying u with
          | .slice b m, some (.slice _) => match (match b with | some b => grd G b (m * i.size) | none => if m = 0 then some [] else none) with
            | some new => match gappend G e i.size i.bytes a n new m with
              | some (a', G') => k (.slice a' (n + m)) G'
              | none => none
            | none => none
          | .str s, some .string => if i.size = 1 then match gappend G e i.size i.bytes a n (bytesI s) s.length with
              | some (a', G') => k (.slice a' (n + s.length)) G'
              | none => none
            else none
          | _, _ => none
        | _, _ => none
      | _ => none
    | _, _ => none
  | .copy => match argTypes.toList, args with
    | [t, _], [.slice a n, .slice b m] => match P.underlying t with
      | some (.slice e) => if P.cellsOf e = 0 then none else match a, b with
        | some a, some b => match grd G b (min m n * P.cellsOf e) with
          | some cs => match gst G a cs with
            | some G' => k (.int .i64 (min m n : Nat)) G'
            | none => none
          | none => none
        | _, _ => if min m n = 0 then k (.int .i64 0) G else none
      | _ => none
    | _, _ => none
  | _ => none

def isLo (lo : List Nat) (dst : Option Tmp) : Bool :=
  match dst with
  | some d => lo.contains d
  | none => false
/-- A new variable: of this call alone, or in the shared heap. -/
def allocC (lo : List Nat) (dst : Option Tmp) (t : TypeId) (cs : List IV) (F : List (List IV)) (G : GH) (k : IV → List (List IV) → GH → Option R) : Option R :=
  if isLo lo dst then k (.loc F.length 0) (F ++ [cs]) G
  else if noLocs cs && cellsI cs then k (.ptr (some (gaddr G))) F (gnew G cs t) else none

/-- What an operation does; its order among its fellows is not asked here. 'sand': the region draws its order: calls may only read. -/
def opC (P : Program) (O : Ora R) (lo : List Nat) (sand : Bool) (o : Oper) (env : List IV) (F : List (List IV)) (G : GH)
    (k : IV → List (List IV) → GH → Option R) : Option R :=
  match o.op with
  | .move x | .assign x => match ev env x with | some v => k v F G | none => none
  | .pick c a b => match ev env c, ev env a, ev env b with
    | some (.bool c), some x, some y => cond c (k x F G) (k y F G)
    | _, _, _ => none
  | .alloc t => match zeroT P t with
    | some v => allocC lo o.dst t v.cells F G k
    | none => none
  | .box t x => match ev env x with
    | some v => allocC lo o.dst t v.cells F G k
    | none => none
  | .build t ps => match zeroT P t, evParts env ps.toList, P.underlying t with
    | some z, some vs, some (.struct fs) => if fs.toList.all fun f => (P.info? f.type).isSome then
        (match fillI (fun i => (fs[i]?).map fun f => (f.offset, P.cellsOf f.type)) z.cells vs with
        | some cs => k (.agg cs) F G
        | none => none) else none
    | some z, some vs, some (.array _ e) => if (P.info? e).isSome then
        (match fillI (fun i => some (i * P.cellsOf e, P.cellsOf e)) z.cells vs with
        | some cs => k (.agg cs) F G
        | none => none) else none
    | _, _, _ => none
  | .buildSlice t len ps => match P.underlying t, evParts env ps.toList with
    | some (.slice e), some vs => match zeroT P e with
      | some z => if len * P.cellsOf e ≤ 2 ^ 20 ∧ z.cells.length = P.cellsOf e ∧ 0 < P.cellsOf e then
          match fillI (fun i => some (i * P.cellsOf e, P.cellsOf e)) (List.replicate len z.cells).flatten vs with
          | some cs => if noLocs cs && cellsI cs then k (.slice (some (gaddr G)) len) F (gnew G cs e) else none
          | none => none
        else none
      | none => none
    | _, _ => none
  | .load t x => match ev env x with | some a => loadC P t a F G fun v => k v F G | none => none
  | .store t x v => match ev env x, ev env v with
    | some a, some v => storeC P t a v F G fun F G => k undefI F G
    | _, _ => none
  | .nilCheck x => match ev env x with
    | some (.ptr a) => match a with | some a => k (.ptr (some a)) F G | none => none
    | some (.loc b i) => k (.loc b i) F G
    | some (.func f cs) => k (.func f cs) F G
    | _ => none
  | .binOp op t x y _ => match ev env x, ev env y with
    | some a, some b => if (soft lo && !sand) = true then (match softB op a b with | some v => k v F G | none => none) else binC P op t a b fun v => k v F G
    | _, _ => none
  | .unOp op _ x => match ev env x with | some a => unC op a fun v => k v F G | none => none
  | .convert s d x => match ev env x with | some a => convC P s d a G fun v G => k v F G | none => none
  | .makeInterface t x => match ev env x, P.underlying t with
    | _, some (.interface _) => none
    | some v, some _ => k (.iface t v) F G
    | _, _ => none
  | .makeFunc (.func f) first caps => match evs env caps.toList with
    | some cs => if first.size = 0 then k (.func f cs) F G else none
    | none => none
  | .makeSlice t l c => match P.underlying t, ev env l, ev env c with
    | some (.slice e), some (.int _ l), some (.int _ c) => match P.info? e, zeroT P e with
      | some i, some z => cond (decide (0 ≤ l ∧ l ≤ c ∧ c * i.bytes ≤ roomI ∧ c ≤ roomI) && decide (z.cells.length = i.size ∧ 0 < i.size) && (noLocs z.cells && cellsI z.cells))
          (k (.slice (some (gaddr G)) l.toNat) F (gnew G (List.replicate l.toNat z.cells).flatten e)) none
      | _, _ => none
    | _, _, _ => none
  | .slice t x lo hi mx => match mx, ev env x with
    | none, some x =>
      match loI env lo, hiI env hi x with
      | some l, some h => match P.underlying t, x with
        | some .string, .str s => cond (decide (0 ≤ l ∧ l ≤ h ∧ h ≤ (s.length : Int))) (k (.str ((s.drop l.toNat).take (h.toNat - l.toNat))) F G) none
        | some (.slice e), .slice a n => if P.cellsOf e = 0 then none else cond (decide (0 ≤ l ∧ l ≤ h ∧ h ≤ (n : Int)) && gcut G a e)
            (k (.slice (cutA a (l.toNat * P.cellsOf e)) (h.toNat - l.toNat)) F G) none
        | _, _ => none
      | _, _ => none
    | _, _ => none
  | .fieldAddr t x f => match ev env x, (fieldsT P t)[f]? with
    | some a, some fd => if P.cellsOf fd.type = 0 then none else match addrI a fd.offset with | some v => k v F G | none => none
    | _, _ => none
  | .field t x f => match ev env x, (fieldsT P t)[f]? with
    | some (.agg cs), some fd => match partI P fd.type cs fd.offset with | some v => k v F G | none => none
    | _, _ => none
  | .indexAddr t x i => match P.underlying t, ev env x, ev env i with
    | some (.slice e), some (.slice a n), some (.int _ i) => if P.cellsOf e = 0 then none else match idx? a n i (P.cellsOf e) with
      | some a => k (.ptr (some a)) F G
      | none => none
    | some (.array n e), some a, some (.int _ i) => if P.cellsOf e = 0 then none else if 0 ≤ i ∧ i < (n : Int) then
        (match addrI a (i.toNat * P.cellsOf e) with | some v => k v F G | none => none) else none
    | _, _, _ => none
  | .index t x i => match P.underlying t, ev env x, ev env i with
    | some .string, some (.str s), some (.int _ i) => cond (decide (0 ≤ i ∧ i < (s.length : Int))) (k (.int .u8 ((s.getD i.toNat 0).toNat)) F G) none
    | some (.array n e), some (.agg cs), some (.int _ i) => if 0 ≤ i ∧ i < (n : Int) then
        (match partI P e cs (i.toNat * P.cellsOf e) with | some v => k v F G | none => none) else none
    | _, _, _ => none
  | .extract x i => match ev env x with
    | some (.tuple vs) => match vs[i]? with | some v => k v F G | none => none
    | _ => none
  | .call c => match evs env c.args.toList with
    | some args => match c.callee with
      | .builtin b => builtinC P b c.argTypes args G fun v G => k v F G
      | .value f => match ev env f with
        | some (.func f caps) => if noLocs args && noLocs caps then
            (if sand then O f (args ++ caps) (gfreeze G) fun v _ => castT P o.type v fun v => if isFlat v then k v F G else none
             else O f (args ++ caps) G fun v G => castT P o.type v fun v => k v F G) else none
        | _ => none
      | _ => none
    | none => none
  | _ => none

/-! ### Regions, code, calls -/
def putI (env : List IV) (d : Option Tmp) (v : IV) : List IV :=
  match d with
  | some d => env.set d v
  | none => env

def opsC (P : Program) (O : Ora R) (lo : List Nat) (sand : Bool) (all : Array Oper) :
    List Oper → List IV → List (List IV) → GH → (List IV → List (List IV) → GH → Option R) → Option R
  | [], env, F, G, k => k env F G
  | o :: os, env, F, G, k =>
    match o.guard with
    | none => opC P O lo sand o env F G fun v F G => opsC P O lo sand all os (putI env o.dst v) F G k
    | some (j, want) =>
      match (all[j]?).bind (·.dst) with
      | none => none
      | some d =>
        match env[d]? with
        | some (.bool b) =>
          cond b
            (if want then opC P O lo sand o (env.set d (.bool true)) F G fun v F G => opsC P O lo sand all os (putI (env.set d (.bool true)) o.dst v) F G k
             else opsC P O lo sand all os (putI (env.set d (.bool true)) o.dst undefI) F G k)
            (if want then opsC P O lo sand all os (putI (env.set d (.bool false)) o.dst undefI) F G k
             else opC P O lo sand o (env.set d (.bool false)) F G fun v F G => opsC P O lo sand all os (putI (env.set d (.bool false)) o.dst v) F G k)
        | some (.tuple []) => opsC P O lo sand all os (putI env o.dst undefI) F G k
        | _ => none

/-- Does an operation leave memory alone (whatever it reads)? -/
def quietOp : Op → Bool
  | .move _ | .assign _ | .pick .. | .build .. | .load .. | .nilCheck _ | .binOp .. | .unOp .. | .makeInterface .. | .makeFunc ..
  | .slice .. | .fieldAddr .. | .field .. | .indexAddr .. | .index .. | .extract .. => true
  | .convert .. => true
  | .call c => match c.callee with
    | .builtin .len | .builtin .max | .builtin .min => true
    | .value _ => true
    | _ => false
  | _ => false
def quietN : List Oper → Nat
  | [] => 0
  | o :: os => if quietOp o.op then quietN os + 1 else 0
/-- Does a conversion make memory? -/
def convMakes (P : Program) : Op → Bool
  | .convert _ d _ => match P.underlying d with | some (.slice _) => true | _ => false
  | _ => false
/-- The order that is drawn is not to be seen: all is quiet, or what is not stands at the end, in one order. -/
def drawOk (P : Program) (ops : Array Oper) : Bool :=
  let n := quietN ops.toList
  (ops.toList.take n).all (fun o => !convMakes P o.op) &&
  (if n = ops.size then Region.lexB .any ops else Region.lexTailB .any ops n)

/-- Does an operation neither make nor write memory, nor call, nor change what it reads? -/
def loneOp : Op → Bool
  | .move _ | .assign _ | .pick .. | .build .. | .load .. | .nilCheck _ | .binOp .. | .unOp .. | .makeInterface .. | .fieldAddr .. | .field .. | .indexAddr .. | .index .. | .extract .. => true
  | _ => false
def loneN : List Oper → Nat
  | [] => 0
  | o :: os => if loneOp o.op then loneN os + 1 else 0
/-- One operation writes, the others read alone, none has a guard. -/
def drawS (ops : Array Oper) : Bool :=
  decide (loneN ops.toList < ops.size) && (ops.toList.drop (loneN ops.toList + 1)).all (fun o => loneOp o.op) && ops.toList.all (fun o => o.guard.isNone) && Region.lexB .any ops && (match ops.toList[loneN ops.toList]? with | some ⟨none, .store .., _, _, _, _⟩ => true | _ => false)

/-! ### Operations that are not ordered -/
/-- Is an operation carried out? -/
def wantI (all : Array Oper) (o : Oper) (env : List IV) : Option Bool :=
  match o.guard with
  | none => some true
  | some (j, want) => match (all[j]?).bind (·.dst) with
    | none => none
    | some d => match env[d]? with
      | some (.bool b) => some (b == want)
      | some (.tuple []) => some false
      | _ => none

inductive Fp where
  | none | rf (b : Nat) | wf (b : Nat) | nf | rg | wg | bad
def sliceT (P : Program) (t : TypeId) : Bool := match P.underlying t with | some (.slice _) => true | _ => false
def fpOp (P : Program) (lo : List Nat) (sand : Bool) (env : List IV) (o : Oper) : Fp :=
  match o.op with
  | .move _ | .assign _ | .pick .. | .build .. | .nilCheck _ | .binOp .. | .unOp .. | .makeInterface .. | .makeFunc .. | .fieldAddr .. | .field .. | .indexAddr .. | .index .. | .extract .. => .none
  | .load _ x => match ev env x with | some (.loc b _) => .rf b | some (.ptr _) => .rg | _ => .bad
  | .store _ x _ => match ev env x with | some (.loc b _) => .wf b | some (.ptr _) => .wg | _ => .bad
  | .alloc _ | .box .. => if isLo lo o.dst then .nf else .wg
  | .makeSlice .. | .buildSlice .. => .wg
  | .convert s d _ => if sliceT P s || sliceT P d then .wg else .none
  | .slice .. => .rg
  | .call c => match c.callee with
    | .builtin .len | .builtin .max | .builtin .min => .none
    | .builtin _ => .wg
    | .value _ => if sand then .rg else .wg
    | _ => .bad
  | _ => .bad

/-- The places whose content an operation's footprint hangs on. -/
def opAddrs (all : Array Oper) (o : Oper) : List Tmp :=
  (match o.op with
   | .load _ (.tmp t) => [t]
   | .store _ (.tmp t) _ => [t]
   | _ => []) ++
  (match o.guard with
   | some (j, _) => ((all[j]?).bind (·.dst)).toList
   | none => [])
def isAlloc : Op → Bool
  | .alloc _ | .box .. => true
  | _ => false
def selfOk (all : Array Oper) (x : Oper) : Bool :=
  match x.dst with
  | none => true
  | some d => !(opAddrs all x).contains d
/-- What comes later leaves them alone. -/
def lateOk (all : Array Oper) (x y : Oper) : Bool :=
  match y.dst with
  | none => true
  | some d => !(opAddrs all x).contains d && !(isAlloc x.op && x.dst == some d)
def fpW (P : Program) (lo : List Nat) (sand : Bool) (all : Array Oper) (E : List IV) (o : Oper) : Fp :=
  match wantI all o E with
  | some false => .none
  | _ => fpOp P lo sand E o
def boxOf (E : List IV) (o : Oper) : Option Nat :=
  if isAlloc o.op then (match o.dst with
    | some d => match E[d]? with
      | some (.loc n _) => some n
      | _ => none
    | none => none) else none
def boxNe (n : Option Nat) (b : Nat) : Bool :=
  match n with
  | some n => n != b
  | none => false
def fpOk (nx ny : Option Nat) : Fp → Fp → Bool
  | .bad, _ | _, .bad => false
  | .none, _ | _, .none => true
  | .rf _, .rf _ | .rf _, .rg | .rf _, .wg => true
  | .rf b, .wf b' => b != b'
  | .rf b, .nf => boxNe ny b
  | .wf b, .rf b' | .wf b, .wf b' => b != b'
  | .wf _, .rg | .wf _, .wg => true
  | .wf b, .nf => boxNe ny b
  | .nf, .rf b | .nf, .wf b => boxNe nx b
  | .nf, .rg | .nf, .wg => true
  | .nf, .nf => false
  | .rg, .wg | .wg, .rg | .wg, .wg => false
  | .rg, _ | .wg, _ => true
def pairOk (P : Program) (lo : List Nat) (sand : Bool) (all : Array Oper) (E : List IV) (x y : Oper) : Bool :=
  fpOk (boxOf E x) (boxOf E y) (fpW P lo sand all E x) (fpW P lo sand all E y)

/-- Who comes before whom: one mask for each. -/
def ancM (o : Oper) (acc : List Nat) : Nat := o.after.toList.foldl (fun m e => if Region.binds .any e then m ||| (1 <<< e.on) ||| acc.getD e.on 0 else m) 0
def ancs : List Oper → List Nat → List Nat
  | [], acc => acc
  | o :: os, acc => ancs os (acc ++ [ancM o acc])
def drawD (P : Program) (lo : List Nat) (ops : Array Oper) (E : List IV) : Bool :=
  (List.range ops.size).all fun j => match ops[j]? with
    | none => true
    | some y => selfOk ops y && y.after.toList.all (fun e => !Region.binds .any e || decide (e.on < j)) && (List.range j).all fun i => match ops[i]? with
        | none => true
        | some x => lateOk ops x y && (((ancs ops.toList []).getD j 0).testBit i || (x.apart ops y && pairOk P lo false ops E x y))


/-- The mark of a function whose drawn regions with one call let it write. -/
def soloMark : Nat := 777777
def isVCall : Op → Bool
  | .call c => match c.callee with | .value _ => true | _ => false
  | _ => false
def isRead : Op → Bool
  | .load .. | .slice .. => true
  | _ => false
/-- One call, and what reads comes before or behind it. -/
def soloC (ops : Array Oper) : Bool :=
  decide (ops.toList.countP (fun o => isVCall o.op) = 1) && (List.range ops.size).all fun i => match ops[i]? with
    | none => true
    | some x => !isVCall x.op || (List.range ops.size).all fun j => match ops[j]? with
      | none => true
      | some y => !isRead y.op || ((ancs ops.toList []).getD i 0).testBit j || ((ancs ops.toList []).getD j 0).testBit i

/-- How large a code is. -/
def weightC : Code → Nat
  | .region _ ops _ => ops.size
  | .seq a b => weightC a + weightC b
  | .cond _ a b => 1 + weightC a + weightC b
  | .block _ c => weightC c
  | .loop c => 5 + weightC c
  | _ => 0
def cutE (ea : List (Option Nat)) (b : Code) : Bool := decide (1 < ea.count none) && decide (2 < weightC b)
/-- A code's ends, but returns, as often as an evaluation comes to them. -/
def endsC : Code → List (Option Nat)
  | .skip => [none]
  | .region _ ops _ => if ops.toList.any (fun o => o.guard.isSome || match o.op with | .pick .. => true | _ => false) then [none, none] else [none]
  | .seq a b => if cutE (endsC a) b then (endsC a).filter (·.isSome) ++ endsC b else (endsC a).flatMap fun e => match e with
    | none => endsC b
    | e => [e]
  | .cond _ a b => endsC a ++ endsC b
  | .block id c => (endsC c).map fun e => if e = some id then none else e
  | .loop c => ((endsC c).filter (·.isSome)).eraseDups
  | .exit id => [some id]
  | _ => []
/-- Does what follows 'a' stand behind several of its ends? -/
def cutS (a b : Code) : Bool := cutE (endsC a) b

inductive Ex where
  | normal | exit (id : Nat) | ret

def loopN (body : List IV → List (List IV) → GH → (Ex → List IV → List (List IV) → GH → Option R) → Option R) :
    Nat → List IV → List (List IV) → GH → (Ex → List IV → List (List IV) → GH → Option R) → Option R
  | 0, _, _, _, _ => none
  | n + 1, env, F, G, k => body env F G fun e env F G => match e with
    | .normal => loopN body n env F G k
    | e => k e env F G

/-- A step that is not taken in an evaluation with an unknown bound: what follows stays one. -/
def stepN (n : Nat) (x : Option R) : Option R :=
  match n with
  | 0 => none
  | _ + 1 => x

/-- The first region of a code. -/
def headId : Code → Nat
  | .region id _ _ => id
  | .seq a _ => headId a
  | .block _ c => headId c
  | .loop c => headId c
  | .cond _ a _ => headId a
  | _ => 0
/-- What is dead is forgotten: the list of a function's locals may bear, for a loop and for a join, at each of its ends, which temporaries live: bits over 2 ^ 40. -/
def keepF : Nat → List IV → List IV
  | _, [] => []
  | m, v :: vs => (bif m % 2 == 1 then v else .any) :: keepF (m / 2) vs
def maskOf : List Nat → Nat → Option Nat
  | [], _ => none
  | e :: es, key => bif Nat.ble 1099511627776 e && e % 1099511627776 == key then some (e / 1099511627776) else maskOf es key
def keepK (lo : List Nat) (key : Nat) (env : List IV) : List IV :=
  match maskOf lo key with
  | some m => keepF m env
  | none => env
/-- Is anything told of what lives there? -/
def maskQ (lo : List Nat) (key : Nat) : Bool := (maskOf lo key).isSome
def exNum : Ex → Nat
  | .normal => 0
  | .ret => 1
  | .exit j => j + 2
def keepE (lo : List Nat) (h : Nat) (e : Ex) (env : List IV) : List IV := keepK lo (h + exNum e * 1048576) env
/-- Is a value known where the locals are but these? -/
def locOk (n : Nat) : IV → Bool
  | .loc b _ => decide (b < n)
  | v => noLoc v
/-- At a round's end the round's own variables are dropped, if nothing leads to them. -/
def dropF (n : Nat) (env : List IV) (F : List (List IV)) : List (List IV) :=
  bif Nat.ble F.length n then F else bif env.all (locOk n) && (F.take n).all (fun cs => cs.all (locOk n)) then F.take n else F
/-- What follows a round or a join: what is dead is forgotten, its own variables are dropped. -/
def kpD (lo : List Nat) (h n : Nat) (k : Ex → List IV → List (List IV) → GH → Option R) : Ex → List IV → List (List IV) → GH → Option R := fun e env F G => k e (keepE lo h e env) (dropF n (keepE lo h e env) F) G

def codeC (P : Program) (O : Ora R) (lo : List Nat) (fuel : Nat) :
    Code → List IV → List (List IV) → GH → (Ex → List IV → List (List IV) → GH → Option R) → Option R
  | .skip, env, F, G, k => k .normal env F G
  | .region _ ops draw, env, F, G, k =>
    if draw then
      (if (drawOk P ops && !(lo.contains soloMark && soloC ops)) = true then
        opsC P O lo true ops (ops.toList.take (quietN ops.toList)) env F G fun env F G =>
          opsC P O lo false ops (ops.toList.drop (quietN ops.toList)) env F G fun env F G => k .normal env F G
       else if drawS ops then
        match ops.toList[loneN ops.toList]? with
        | some ⟨none, .store t x v, _, _, _, _⟩ => match ev env x with
          | some (.loc b i) => opsC P O lo true ops (ops.toList.take (loneN ops.toList)) env (F.set b []) G fun env _ _ => match ev env x, ev env v with
            | some (.loc b' i'), some v => if b' = b ∧ i' = i then storeC P t (.loc b i) v F G fun F' G' =>
                opsC P O lo true ops (ops.toList.drop (loneN ops.toList + 1)) env (F.set b []) G fun env _ _ => k .normal env F' G'
              else none
            | _, _ => none
          | _ => none
        | _ => none
       else opsC P O lo false ops ops.toList env F G fun env F G => if drawD P lo ops env = true then k .normal env F G else none)
    else opsC P O lo false ops ops.toList env F G fun env F G => k .normal env F G
  | .seq a b, env, F, G, k => if cutS a b then
      (bif maskQ lo (4 * headId b + 2) then stepN fuel (codeC P O lo fuel a (keepK lo (4 * headId b + 2) env) F G (kpD lo (4 * headId b + 3) F.length fun e env F G => match e with
        | .normal => codeC P O lo fuel b env F G k
        | e => k e env F G))
      else stepN fuel (codeC P O lo fuel a env F G fun e env F G => match e with
        | .normal => codeC P O lo fuel b env F G k
        | e => k e env F G))
    else codeC P O lo fuel a env F G fun e env F G => match e with
      | .normal => codeC P O lo fuel b env F G k
      | e => k e env F G
  | .cond c a b, env, F, G, k => match ev env c with
    | some (.bool t) => cond t (codeC P O lo fuel a env F G k) (codeC P O lo fuel b env F G k)
    | _ => none
  | .block id c, env, F, G, k => codeC P O lo fuel c env F G fun e env F G => match e with
    | .exit j => if j = id then k .normal env F G else k (.exit j) env F G
    | e => k e env F G
  | .loop c, env, F, G, k => bif maskQ lo (4 * headId c) then loopN (fun env F G k => codeC P O lo fuel c env F G (kpD lo (4 * headId c) F.length k)) fuel (keepK lo (4 * headId c) env) F G k
    else loopN (fun env F G k => codeC P O lo fuel c env F G k) fuel env F G k
  | .exit id, env, F, G, k => k (.exit id) env F G
  | .ret, env, F, G, k => k .ret env F G
  | _, _, _, _, _ => none

def resL (P : Program) (env : List IV) (F : List (List IV)) (G : GH) : List ResultVar → (List IV → Option R) → Option R
  | [], k => k []
  | .tmp t :: rs, k => match tmpv env t with
    | some v => resL P env F G rs fun vs => k (v :: vs)
    | none => none
  | .cell a t :: rs, k => match tmpv env a with
    | some x => loadC P t x F G fun v => resL P env F G rs fun vs => k (v :: vs)
    | none => none

def resC (P : Program) (fn : Func) (env : List IV) (F : List (List IV)) (G : GH) (k : IV → GH → Option R) : Option R :=
  resL P env F G fn.results.toList fun vs => match vs with
    | [v] => if noLoc v then k v G else none
    | vs => if noLocs vs then k (.tuple vs) G else none

/-- A function without a Go body, by its name. -/
def externC (fn : Func) (args : List IV) (G : GH) (k : IV → GH → Option R) : Option R :=
  if fn.origin = "" then
    if fn.name = "math.Float64bits" then match args with | [.float .f64 b] => k (.int .u64 b) G | _ => none
    else if fn.name = "math.Float64frombits" then match args with | [.int .u64 n] => k (.float .f64 n.toNat) G | _ => none
    else if fn.name = "math.Float32bits" then match args with | [.float .f32 b] => k (.int .u32 b) G | _ => none
    else if fn.name = "math.Float32frombits" then match args with | [.int .u32 n] => k (.float .f32 n.toNat) G | _ => none
    else if fn.name = "math/bits.Add64" then match args with
      | [.int _ x, .int _ y, .int _ c] => if c.toNat > 1 then none else k (.tuple [.int .u64 (Int.ofNat ((x.toNat + y.toNat + c.toNat) % 2 ^ 64)), .int .u64 (Int.ofNat ((x.toNat + y.toNat + c.toNat) / 2 ^ 64))]) G
      | _ => none
    else if fn.name = "math/bits.Sub64" then match args with
      | [.int _ x, .int _ y, .int _ c] => if c.toNat > 1 then none else k (.tuple [.int .u64 (Int.ofNat ((x.toNat + 2 ^ 64 - y.toNat - c.toNat) % 2 ^ 64)), .int .u64 (Int.ofNat (if x.toNat < y.toNat + c.toNat then 1 else 0))]) G
      | _ => none
    else if fn.name = "math.archFloor" then match args with
      | [.float .f64 x] => match FloatKind.f64.decode x with
        | .nan _ _ => none
        | d => k (.float .f64 (FloatKind.f64.encode (d.integral .down))) G
      | _ => none
    else if fn.name = "internal/bytealg.IndexByteString" then match args with
      | [.str s, .int .u8 c] => k (.int .i64 (Go.Lib.indexByte s c.toNat.toUInt8)) G
      | _ => none
    else if fn.name = "internal/bytealg.CountString" then match args with
      | [.str s, .int .u8 c] => k (.int .i64 (Go.Lib.countByte s c.toNat.toUInt8 : Nat)) G
      | _ => none
    else none
  else none

/-- A call: the body, from the arguments. -/
def bodyC (P : Program) (O : Ora R) (lo : List Nat) (fuel : Nat) (fn : Func) (args : List IV) (G : GH) (k : IV → GH → Option R) : Option R :=
  match fn.body with
  | none => externC fn args G k
  | some c => codeC P O lo fuel c (args ++ List.replicate (fn.ntmps - args.length) undefI) [] G fun e env F G =>
    match e with
    | .exit _ => none
    | _ => resC P fn env F G k

end
end Go.LI

namespace Go.LI
open Go
section
variable {R : Type}
/-- The mark of a function that is run in an empty heap: it neither takes nor gives addresses. -/
def pureMark : Nat := 999999
/-- All calls by the interpreter, so deep. -/
def runC (P : Program) (lo : Nat → List Nat) (fuel : Nat) : Nat → Ora R
  | 0, _, _, _, _ => none
  | n + 1, f, args, G, k => match P.funcs[f]? with
    | some fn => if (lo f).contains pureMark then (if isFlats args then bodyC P (runC P lo fuel n) (lo f) fuel fn args [] (fun v _ => if isFlat v then k v G else none) else none)
      else bodyC P (runC P lo fuel n) (lo f) fuel fn args G k
    | none => none
end
end Go.LI
